/- RIP: bytes that are a datagram are that of their routes. -/
import Derived.Test.YtnjhhopdiopbfaaPBase
import Derived.Test.YtnjhhopdiopbfaaPCur
import Derived.Test.YtnjhhopdiopbfaaPOct
import Derived.Test.YtnjhhopdiopbfaaPTlv
import Derived.Test.YtnjhhopdiopbfaaPSub
import Derived.Test.YtnjhhopdiopbfaaPMsg
import Derived.Test.YtnjhhopdiopbfaaPBits
import Derived.Test.YtnjhhopdiopbfaaPRipA
import Derived.Test.YtnjhhopdiopbfaaPRipB
import Derived.Test.YtnjhhopdiopbfaaPRipC
import Derived.Test.YtnjhhopdiopbfaaPRipD
import Derived.Test.YtnjhhopdiopbfaaPRipE
import Derived.Test.YtnjhhopdiopbfaaPRipF
import Derived.Test.YtnjhhopdiopbfaaPRipG
set_option linter.unusedVariables false
set_option linter.unusedSimpArgs false
set_option maxRecDepth 100000
namespace Go.VP
open Go Go.VI
theorem headR_rng (b : Bs) : 0 ≤ (headR b).1 ∧ (headR b).1 ≤ b.length := by
  unfold headR
  split
  · simp
  split
  · simp
  split
  · dsimp only; omega
  split
  · dsimp only; omega
  split
  · simp
  split
  · simp
  split
  · dsimp only; omega
  · simp
theorem goR_err {f : Ent → Msg × Int} {b : Bs} : ∀ (k at_ : Nat) (acc : List Msg), at_ + 20 * k ≤ b.length → (goR f b k at_ acc).2.2 ≠ 0 → (goR f b k at_ acc).1 = [] ∧ 0 ≤ (goR f b k at_ acc).2.1 ∧ (goR f b k at_ acc).2.1 ≤ b.length
  | 0, at_, acc, h, he => absurd rfl he
  | k + 1, at_, acc, h, he => by
    rw [goR] at he ⊢
    split
    · exact ⟨rfl, by dsimp only; omega, by dsimp only; omega⟩
    · rename_i h0
      rw [if_neg h0] at he
      exact goR_err k (at_ + 20) _ (by omega) he
theorem parseR_err {b : Bs} (h : (parseR b).2.2 ≠ 0) : (parseR b).1 = [] ∧ 0 ≤ (parseR b).2.1 ∧ (parseR b).2.1 ≤ b.length := by
  unfold parseR at h ⊢
  by_cases h0 : (headR b).2 = 0
  · have hk := headR_ok h0
    rw [if_neg (fun c => c h0)] at h ⊢
    by_cases h1 : bt b 1 = 2 ∧ authB (cut_ b 4 20) = true
    · rw [if_pos h1] at h ⊢
      by_cases h2 : b.length = 24
      · rw [if_pos h2]; exact ⟨rfl, by dsimp only; omega, by dsimp only; omega⟩
      · rw [if_neg h2] at h ⊢; exact goR_err _ _ _ (by omega) h
    · rw [if_neg h1] at h ⊢; exact goR_err _ _ _ (by omega) h
  · rw [if_pos h0]; exact ⟨rfl, headR_rng b⟩
theorem parse_good {b : Bs} (h : (parseR b).2.2 = 0) : ∃ r, parseR b = (r, 0, 0) ∧ 1 ≤ r.length ∧ r.length ≤ 25 ∧ (∀ m ∈ r, okR m) ∧ encR r = (b, 0, 0) := by
  unfold parseR at h ⊢
  by_cases h0 : (headR b).2 = 0
  rotate_left
  · rw [if_pos h0] at h; exact absurd h h0
  obtain ⟨k1, k2, k3, k4, k5, k6, k7⟩ := headR_ok h0
  rw [if_neg (fun c => c h0)] at h ⊢
  obtain ⟨w, x, y, z, t, rfl⟩ := four_of (b := b) (by omega)
  have e0 : bt (w :: x :: y :: z :: t) 0 = (w.toNat : Int) := rfl
  have e1 : bt (w :: x :: y :: z :: t) 1 = (x.toNat : Int) := rfl
  have hy : y = 0 := u8_eq (show (y.toNat : Int) = ((0 : UInt8).toNat : Int) from k5)
  have hz : z = 0 := u8_eq (show (z.toNat : Int) = ((0 : UInt8).toNat : Int) from k6)
  subst hy; subst hz
  -- of routes that stand together with this head the datagram is these bytes
  have fin : ∀ (r : List Msg) (s : Bs) (al : Bool) (at_ : Nat), (s = [] ∨ (bt (w :: x :: 0 :: 0 :: t) 1 = 2 ∧ s.length = 18)) → (al = true → r.length = 1) → 1 ≤ r.length → r.length + (if s = [] then 0 else 1) ≤ 25 →
      (∀ m ∈ r, okR m ∧ m.cmd = bt (w :: x :: 0 :: 0 :: t) 0 ∧ m.ver = bt (w :: x :: 0 :: 0 :: t) 1 ∧ m.auth = s ∧ (m.family = 0 → al = true)) → r.flatMap lineF = (w :: x :: 0 :: 0 :: t).drop at_ → [w, x, 0, 0] ++ (if s = [] then [] else [255, 255] ++ s) = (w :: x :: 0 :: 0 :: t).take at_ → encR r = (w :: x :: 0 :: 0 :: t, 0, 0) := by
    intro r s al at_ hs hal hr1 hr2 hm hfl htk
    unfold encR
    rw [badR_ok (fun m h => (hm m h).1)]
    cases r with
    | nil => simp at hr1
    | cons f r =>
      obtain ⟨f1, f2, f3, f4, f5⟩ := hm f (by simp)
      dsimp only
      have hmo : (((f :: r).length : Nat) : Int) ≤ mostR f := by
        unfold mostR
        rw [f4]
        by_cases hs0 : s = []
        · rw [if_pos hs0] at hr2 ⊢; omega
        · rw [if_neg hs0] at hr2 ⊢; omega
      rw [enc_good (f :: r) 0 _ (by simpa using hmo) (fun j hj h0 => ?_)]
      · have : headE f = (w :: x :: 0 :: 0 :: t).take at_ := by
          rw [← htk]
          unfold headE
          rw [f2, f3, f4, e0, e1, u8of_emod' (by omega), u8of_emod' (by omega), u8of_nat, u8of_nat]
        rw [this, hfl, List.take_append_drop]
      · obtain ⟨g1, g2, g3, g4, g5⟩ := hm ((f :: r)[j]) (List.getElem_mem hj)
        have nal : ¬ al = true := fun c => by have := hal c; omega
        exact ⟨by rw [g2, f2], by rw [g3, f3], by rw [g4, f4], fun c => nal (g5 c), fun c => nal (f5 c)⟩
  generalize hB : (w :: x :: 0 :: 0 :: t) = B at *
  have hl : (cut_ B 4 20).length = 20 := cut_len (p := 4) (n := 20) (by omega)
  have tk4 : B.take 4 = [w, x, 0, 0] := by rw [← hB]; rfl
  by_cases h1 : bt B 1 = 2 ∧ authB (cut_ B 4 20) = true
  · rw [if_pos h1] at h ⊢
    by_cases h2 : B.length = 24
    · rw [if_pos h2] at h; simp at h
    rw [if_neg h2] at h ⊢
    have hs : ((cut_ B 4 20).drop 2).length = 18 := by simp [hl]
    obtain ⟨r, r1, r2, r3, r4⟩ := go_good k3 k4 (.inr ⟨h1.1, hs⟩) ((B.length - 24) / 20) 24 [] (by omega) h
    rw [r1]
    refine ⟨r, by simp, by omega, by omega, fun m hm => (r3 m hm).1, fin r _ _ 24 (.inr ⟨h1.1, hs⟩) (fun c => by simp at c; omega) (by omega) (by split <;> omega) r3 r4 ?_⟩
    have hne : ¬ ((cut_ B 4 20).drop 2 = []) := fun c => by rw [c] at hs; simp at hs
    rw [if_neg hne, ← tk4]
    have h2 : (cut_ B 4 20).take 2 = [255, 255] := by have := h1.2; unfold authB at this; simpa using this
    rw [← h2, List.take_append_drop]
    have : cut_ B 4 20 = (B.take 24).drop 4 := rfl
    rw [this]
    have := List.take_append_drop 4 (B.take 24)
    rw [List.take_take, show min 4 24 = 4 by decide] at this
    exact this
  · rw [if_neg h1] at h ⊢
    obtain ⟨r, r1, r2, r3, r4⟩ := go_good k3 k4 (.inl rfl) ((B.length - 4) / 20) 4 [] (by omega) h
    rw [r1]
    exact ⟨r, by simp, by omega, by omega, fun m hm => (r3 m hm).1, fin r _ _ 4 (.inl rfl) (fun c => by simp at c; omega) (by omega) (by simp; omega) r3 r4 (by rw [if_pos rfl, tk4]; rfl)⟩
end Go.VP
