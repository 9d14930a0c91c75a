/- Routes that have a datagram come back of it; cut off, it is none, unless between entries: for all arguments. -/
import Derived.Test.YtnjhhopdiopbfaaFQ4
import Derived.Test.YtnjhhopdiopbfaaPBase
import Derived.Test.YtnjhhopdiopbfaaPCur
import Derived.Test.YtnjhhopdiopbfaaPOct
import Derived.Test.YtnjhhopdiopbfaaPTlv
import Derived.Test.YtnjhhopdiopbfaaPSub
import Derived.Test.YtnjhhopdiopbfaaPMsg
import Derived.Test.YtnjhhopdiopbfaaPBits
import Derived.Test.YtnjhhopdiopbfaaPRipA
import Derived.Test.YtnjhhopdiopbfaaPRipB
import Derived.Test.YtnjhhopdiopbfaaPRipC
import Derived.Test.YtnjhhopdiopbfaaPRipD
import Derived.Test.YtnjhhopdiopbfaaPRipE
import Derived.Test.YtnjhhopdiopbfaaPRipF
import Derived.Test.YtnjhhopdiopbfaaPRipG
import Derived.Test.YtnjhhopdiopbfaaPRipH
import Derived.Test.YtnjhhopdiopbfaaPRipI
import Derived.Test.YtnjhhopdiopbfaaFGood
set_option linter.unusedVariables false
set_option linter.unusedSimpArgs false
set_option maxRecDepth 100000
namespace Go.VP
open Go Go.VI
theorem enc_back {l : List Msg} (h : (encR l).2.2 = 0) : ∃ f r, l = f :: r ∧ (∀ m ∈ l, okR m) ∧ (∀ m ∈ r, togP f m) ∧ ((l.length : Nat) : Int) ≤ mostR f ∧ encR l = (headE f ++ l.flatMap lineF, 0, 0) := by
  unfold encR at h ⊢
  cases hb : badR l 0 with
  | some i => rw [hb] at h; simp at h
  | none =>
    rw [hb] at h
    have hok := badR_none hb
    cases l with
    | nil => simp at h
    | cons f r =>
      dsimp only at h ⊢
      have hmo : ((0 : Nat) : Int) ≤ mostR f := by unfold mostR; split <;> omega
      obtain ⟨h1, h2⟩ := encGo_ok (f :: r) 0 _ hmo h
      refine ⟨f, r, rfl, hok, fun m hm => ?_, by simpa using h1, enc_good (f :: r) 0 _ (by simpa using h1) h2⟩
      obtain ⟨j, hj, e⟩ := List.mem_iff_getElem.1 hm
      have := h2 (j + 1) (by simpa using hj) (by omega)
      rw [List.getElem_cons_succ, e] at this
      exact this
theorem parse_head {f : Msg} (hf : okR f) (ha : f.auth ≠ []) : (parseR (headE f)).2.2 = 8 := by
  have hl := headE_length hf
  rw [if_neg ha] at hl
  obtain ⟨_, _, hc, hv, _, _, hau, hx⟩ := hf
  have h18 : f.ver = 2 ∧ f.auth.length = 18 := by rcases hau with h | h; exact absurd h ha; exact h
  have ub : ∀ x : Int, x = 1 ∨ x = 2 → ((u8of (x % 256)).toNat : Int) = x := fun x hx => by rw [u8of_int]; omega
  have hb : headE f = u8of (f.cmd % 256) :: u8of (f.ver % 256) :: 0 :: 0 :: ([255, 255] ++ f.auth) := by unfold headE; rw [if_neg ha]; rfl
  rw [hb] at hl ⊢
  generalize hY : ([255, 255] : Bs) ++ f.auth = Y at *
  have b0 : bt (u8of (f.cmd % 256) :: u8of (f.ver % 256) :: 0 :: 0 :: Y) 0 = f.cmd := ub _ hc
  have b1 : bt (u8of (f.cmd % 256) :: u8of (f.ver % 256) :: 0 :: 0 :: Y) 1 = f.ver := ub _ hv
  have b2 : bt (u8of (f.cmd % 256) :: u8of (f.ver % 256) :: 0 :: 0 :: Y) 2 = 0 := rfl
  have b3 : bt (u8of (f.cmd % 256) :: u8of (f.ver % 256) :: 0 :: 0 :: Y) 3 = 0 := rfl
  have e : authB (cut_ (u8of (f.cmd % 256) :: u8of (f.ver % 256) :: 0 :: 0 :: Y) 4 20) = true := by
    show authB (Y.take 20) = true
    rw [← hY, List.take_of_length_le (by simp [h18.2])]; rfl
  generalize hB : u8of (f.cmd % 256) :: u8of (f.ver % 256) :: 0 :: 0 :: Y = B at *
  unfold parseR
  rw [headR_of (by omega) (by omega) (by rw [b0]; exact hc) (by rw [b1]; exact hv) ⟨b2, b3⟩ (by omega), if_neg (by simp), if_pos ⟨by rw [b1]; exact h18.1, e⟩, if_pos hl]
theorem parse_bad {b : Bs} (h : b.length < 24 ∨ ((b.length : Int) - 4) % 20 ≠ 0) : (parseR b).2.2 ≠ 0 := by
  have : (headR b).2 ≠ 0 := fun c => by have := headR_ok c; omega
  unfold parseR; rw [if_pos this]; exact this
theorem flat_take : ∀ {l : List Msg} (k : Nat), (∀ m ∈ l, okR m) → (l.flatMap lineF).take (20 * k) = (l.take k).flatMap lineF
  | [], k, _ => by simp
  | m :: r, 0, _ => by simp
  | m :: r, k + 1, h => by
    have hl := lineF_length (h m (by simp))
    rw [List.flatMap_cons, List.take_succ_cons, List.flatMap_cons, ← flat_take k (fun x hx => h x (by simp [hx])), List.take_append, hl, show 20 * (k + 1) - 20 = 20 * k by omega, List.take_of_length_le (by omega)]
theorem ripBack_pure (x0 : List S_api_Msg) (g0 : Good_list_api_Msg x0) (x1 : Int) (g1 : Good_uint16 x1) : g_law10_RipBack (x0, x1, ()) = some ((true, ()), ()) := by
  have g0 : ∀ m ∈ x0, Good_api_Msg m := g0.1.2
  have g1 : 0 ≤ x1 ∧ x1 ≤ 65535 := g1.1
  rw [g_law10_RipBack_eq]
  obtain ⟨b, hb, hb'⟩ := fewAll30 (a := x0) (fun m hm => goodMsg1 (g0 m hm))
  rw [hb, Option.bind_some]
  dsimp only
  cases b with
  | false => rw [ifnf, awake10]; rfl
  | true =>
  obtain ⟨hl, hf⟩ := hb' rfl
  have rm : ∀ m ∈ x0, RM m := fun m hm => goodRM (g0 m hm) (hf m hm)
  rw [ifnt, enc_is rm (by omega), Option.bind_some]
  refine ne_step (fun he => ?_) (fun he => ?_)
  · obtain ⟨e1, e2, e3⟩ := encR_err he
    rw [awake10, Option.bind_some]
    dsimp only
    rw [ift, if_pos (by rw [e1]; rfl), ifd e2, decide_eq_true e3]
  obtain ⟨f, r, rfl, hok, ht, hmo, he2⟩ := enc_back he
  rw [he2]
  dsimp only
  have hfam : f.family = 0 → r = [] := fun c => by
    cases r with
    | nil => rfl
    | cons x _ => exact absurd c (ht x (by simp)).2.2.2.2
  have hpb := parse_back hok ht hfam hmo
  have hfl := flat_len hok
  have hf0 := hok f (by simp)
  have hhl := headE_length hf0
  have hs : ∀ m ∈ f :: r, m.list.length ≤ 1000000000 ∧ m.subs.length ≤ 1000000000 := fun m hm => ⟨(rm m hm).list, (rm m hm).subs⟩
  have hL : (headE f ++ (f :: r).flatMap lineF).length = (headE f).length + 20 * (f :: r).length := by rw [List.length_append, hfl]
  have h1 : 1 ≤ (f :: r).length := by simp
  have hb1 : 4 ≤ (headE f).length ∧ ((headE f).length = 4 ∨ (headE f).length = 24 ∧ f.auth ≠ []) ∧ (headE f).length + 20 * (f :: r).length ≤ 504 := by
    unfold mostR at hmo
    by_cases ha : f.auth = []
    · rw [if_pos ha] at hmo hhl; omega
    · rw [if_neg ha] at hmo hhl; exact ⟨by omega, .inr ⟨hhl, ha⟩, by omega⟩
  generalize hBB : headE f ++ (f :: r).flatMap lineF = B at *
  rw [parse_is (by omega), Option.bind_some, hpb]
  dsimp only
  rw [if_neg (by decide), sameAll_is (by omega) hs, Option.bind_some]
  dsimp only
  rw [ifnt, ifn (by omega), ifn (by omega), if_pos (by omega), w64 (by omega) (by omega), Int.tmod_eq_emod_of_nonneg g1.1]
  obtain ⟨n, hn⟩ : ∃ n : Nat, x1 % (B.length : Int) = (n : Int) := ⟨(x1 % (B.length : Int)).toNat, by have := Int.emod_nonneg x1 (show (B.length : Int) ≠ 0 by omega); omega⟩
  have hnl : n < B.length := by have := Int.emod_lt_of_pos x1 (show 0 < (B.length : Int) by omega); omega
  rw [hn, if_pos (by omega), Int.toNat_natCast, Int.tmod_eq_emod_of_nonneg (by omega)]
  have htl : (B.take n).length = n := by simp; omega
  rw [parse_is (by omega), Option.bind_some]
  by_cases hbad : n < 24 ∨ ((n : Int) - 4) % 20 ≠ 0
  · have hp := parse_bad (b := B.take n) (by rw [htl]; exact hbad)
    rw [if_pos (by simpa using hp), awake10, Option.bind_some]
    dsimp only
    rw [ift]
    refine dq_step (fun _ => rfl) (fun h24 => ?_)
    refine ne_step (fun _ => rfl) (fun h20 => ?_)
    omega
  · have hk : ∃ k, n = (headE f).length + 20 * k ∧ k < (f :: r).length := ⟨(n - (headE f).length) / 20, by omega, by omega⟩
    obtain ⟨k, hk, hkl⟩ := hk
    have htake : B.take n = headE f ++ ((f :: r).take k).flatMap lineF := by
      rw [← hBB, hk, List.take_append, List.take_of_length_le (by omega), show (headE f).length + 20 * k - (headE f).length = 20 * k by omega, flat_take k hok]
    cases k with
    | zero =>
      have hauth : f.auth ≠ [] := by rcases hb1.2.1 with h | h; omega; exact h.2
      have hp := parse_head hf0 hauth
      have e0 : B.take n = headE f := by rw [htake]; simp
      rw [e0, if_pos (by dsimp only; rw [hp]; rfl), awake10, Option.bind_some]
      dsimp only
      have : n = 24 := by rcases hb1.2.1 with h | h <;> omega
      rw [ift, ifn (by omega), if_neg (by rw [this]; decide), bind_at (show 0 < (f :: r).length by omega)]
      rw [if_pos (by simpa using hauth), this]; rfl
    | succ k =>
      have hq := parse_back (f := f) (r := r.take k) (fun m hm => hok m (by
        rcases List.mem_cons.1 hm with rfl | hm
        · simp
        · exact List.mem_cons_of_mem _ (List.mem_of_mem_take hm))) (fun m hm => ht m (List.mem_of_mem_take hm)) (fun c => by rw [hfam c]; simp) (by simp only [List.length_cons, List.length_take] at hmo ⊢; omega)
      have e0 : B.take n = headE f ++ (f :: r.take k).flatMap lineF := by rw [htake, List.take_succ_cons]
      rw [e0, hq]
      have hol : (f :: r.take k).length = k + 1 := by simp only [List.length_cons, List.length_take] at hkl ⊢; omega
      rw [if_neg (by dsimp only; decide), awake10, Option.bind_some]
      dsimp only
      rw [ift, ifd (by omega), if_pos (by rw [beq_iff_eq]; omega), ifd (by omega), if_pos (by omega), hol, Int.toNat_natCast, List.take_succ_cons, sameAll_is (by omega) (fun m hm => hs m (by
        rcases List.mem_cons.1 hm with rfl | hm
        · simp
        · exact List.mem_cons_of_mem _ (List.mem_of_mem_take hm)))]
      rfl
end Go.VP
