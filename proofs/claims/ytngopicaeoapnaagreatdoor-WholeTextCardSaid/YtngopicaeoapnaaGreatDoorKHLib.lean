import Derived.Test.YtngopicaeoapnaaGreatDoorKHBase
import Derived.Test.YtngopicaeoapnaaGreatDoorKHPrintA
import Derived.Test.YtngopicaeoapnaaGreatDoorKM0
import Derived.RegionTactic
import Derived.Lib.AtoiTie
import Derived.Lib.AtoiErrMem
import Derived.Lib.IndexMore
set_option linter.unusedVariables false
set_option linter.unusedSimpArgs false
namespace Go.VI
open Go Go.VP
theorem el2 (c x : UInt8) (r : List UInt8) (hx : ¬ x = c) : Lib.index (x :: r) [c] = if Lib.index r [c] == -1 then -1 else Lib.index r [c] + 1 := by
  have hp : ([c] : List UInt8).isPrefixOf (x :: r) = false := by simp [List.isPrefixOf, Ne.symm hx]
  rw [Lib.index, hp]; simp
theorem dL3 (c : UInt8) : ∀ (s : List UInt8), Lib.cut s [c] = ac4 c s
  | [] => by rw [ac4]; simp [Lib.cut, Lib.index]
  | x :: r => by
    rw [ac4]
    by_cases hx : x = c
    · subst hx
      have hix : Lib.index (x :: r) [x] = ((0 : Nat) : Int) := by rw [Lib.index]; simp [List.isPrefixOf]
      rw [if_pos rfl]
      unfold Lib.cut
      rw [hix]
      simp
    · have ih := dL3 c r
      rw [if_neg hx, ← ih]
      have hix := el2 c x r hx
      have hge := Lib.index_ge r [c]
      unfold Lib.cut
      by_cases hm : Lib.index r [c] = -1
      · rw [hix, hm]; simp
      · obtain ⟨j, hj⟩ : ∃ j : Nat, Lib.index r [c] = j := ⟨(Lib.index r [c]).toNat, by omega⟩
        rw [hix, if_neg (fun e => hm (beq_iff_eq.1 e)), hj, if_pos (by omega), if_pos (by omega), show ((j : Int) + 1).toNat = j + 1 by omega, Int.toNat_natCast, List.length_singleton, List.take_succ_cons, show j + 1 + 1 = (j + 1) + 1 from rfl, List.drop_succ_cons]
theorem eU3 : ∀ n : Nat, n < 256 → dv 10 (UInt8.ofNat n) = Lib.digitVal (UInt8.ofNat n) := by decide +kernel
theorem eU4 (c : UInt8) : dv 10 c = Lib.digitVal c := by
  have := eU3 c.toNat c.toNat_lt
  rwa [show UInt8.ofNat c.toNat = c by simp] at this
theorem eu6 : ∀ (l : List UInt8) (x : Nat), vN 10 l x = Lib.decFrom x l
  | [], x => rfl
  | b :: r, x => by
    rw [vN, Lib.decFrom, eU4]
    cases Lib.digitVal b with
    | none => rfl
    | some d => exact eu6 r _
theorem eJ8 : ∀ u, u < 10 → UInt8.ofNat (48 + u) = aB5 u := by decide
theorem dT3 : ∀ (f u : Nat), u < 10 ^ f → 0 < f → Lib.decDigits u = aX1 10 f u
  | f + 1, u, hu, _ => by
    by_cases h : u < 10
    · rw [Lib.decDigits_one h, aX1, if_pos h, eJ8 u h]
    · have hf : 0 < f := by
        rcases Nat.eq_zero_or_pos f with rfl | h'
        · simp at hu; omega
        · exact h'
      rw [Lib.decDigits, dif_neg h, aX1, if_neg h, eJ8 _ (Nat.mod_lt _ (by decide)), dT3 f (u / 10) (by rw [Nat.pow_succ] at hu; omega) hf]
theorem itoa_dec {n : Int} (h : rng n) : Lib.itoa n = as2 n.toNat := by
  have h1 := h.1; have h2 := h.2
  unfold Lib.itoa as2
  rw [if_neg (by omega)]
  first
    | exact dT3 13 _ (by omega) (by decide)
    | (rw [dT3 13 _ (by omega) (by decide)])
theorem atoi_num {s : List UInt8} {v : Nat} (h : al1 s = some v) : Lib.atoiAll s = .ok (v : Int) := by
  obtain ⟨h1, h2⟩ := dec_numRd h
  have hl : s.length ≤ 13 := by rw [← h1]; exact decT_len v
  have hv : vN 10 s 0 = some v := by
    have h' := h
    unfold al1 at h'
    split at h'
    · rename_i x hx
      split at h'
      · injection h' with h'; subst h'; exact hx
      · cases h'
    · cases h'
  rw [Lib.atoiAll_short s (by omega)]
  have : Lib.atoi s = some (v : Int) := by
    cases s with
    | nil => exact absurd h1 (dR9 v)
    | cons b r =>
      have hb : dv 10 b ≠ none := by intro e; rw [vN, e] at hv; cases hv
      have n45 : ¬ (b == 45) = true := by intro e; rw [beq_iff_eq.1 e] at hb; exact hb (by decide +kernel)
      have n43 : ¬ (b == 43) = true := by intro e; rw [beq_iff_eq.1 e] at hb; exact hb (by decide +kernel)
      rw [Lib.atoi, if_neg n45, if_neg n43]
      unfold Lib.decNat
      rw [if_neg (by simp), ← eu6, hv]
      rfl
  rw [this]; rfl
theorem num_atoi {s : List UInt8} {n : Int} (h : rng n) (hi : Lib.itoa n = s) : al1 s = some n.toNat := by
  rw [← hi, itoa_dec h]
  exact cb9 (by have := h.2; have := h.1; omega)
end Go.VI
namespace Go.Proofs
open Go.RowKit Go.Sort Go.Lib
open Go.VI (ac4 dL3 ao8 al1 envW)
set_option maxHeartbeats 4000000 in
set_option maxRecDepth 100000 in
theorem Tryz.slcut (s : ByteArray) (c : UInt8) (w : World) (hs : s.size ≤ 1000000) :
    Calls Tryz.prog 43 #[.string s, .string ⟨#[c]⟩] w fun e w' => e = .returned (.tuple #[.string ⟨(ac4 c s.data.toList).1.toArray⟩, .string ⟨(ac4 c s.data.toList).2.1.toArray⟩, .bool (ac4 c s.data.toList).2.2]) ∧ Below w.heap.size w w' := by
  have h1 : (⟨#[c]⟩ : ByteArray).size = 1 := rfl
  rw [← dL3]
  rcases Lib.indexB_cases s ⟨#[c]⟩ with hix | ⟨i, hix, hroom⟩
  · obtain ⟨e1, e2, e3⟩ := Lib.cutB_miss s ⟨#[c]⟩ hix
    rw [show ([c] : List UInt8) = (⟨#[c]⟩ : ByteArray).data.toList from rfl, e1, e2, e3]
    go_enter Tryz.func43, Tryz.ntmps43
    go_wp2_with (go_at_call 88; refine (Tryz.stringslite_Index_one _ _ _).mono ?_; rintro e w' ⟨rfl, rfl⟩; rw [show Lib.indexByte s.data.toList c = -1 by rw [← Lib.index_one]; exact hix])
    go_ret3
    exact ⟨rfl, Below.refl _ _⟩
  · obtain ⟨e1, e2, e3⟩ := Lib.cutB_hit s ⟨#[c]⟩ i hix
    rw [show ([c] : List UInt8) = (⟨#[c]⟩ : ByteArray).data.toList from rfl, e1, e2, e3]
    rw [h1] at hroom ⊢
    have c1 : (0 : Int) ≤ ↑i := by omega
    have c2 : (↑i : Int) ≤ ↑s.size := by omega
    have c3 : (0 : Int) ≤ ↑i + ↑(1 : Nat) := by omega
    have c4 : (↑i + 1 : Int) ≤ ↑s.size := by omega
    go_enter Tryz.func43, Tryz.ntmps43
    go_wp2_with (go_at_call 88; refine (Tryz.stringslite_Index_one _ _ _).mono ?_; rintro e w' ⟨rfl, rfl⟩; rw [show Lib.indexByte s.data.toList c = (i : Int) by rw [← Lib.index_one]; exact hix])
    go_region
    go_wp2
    go_ret3
    exact ⟨rfl, ag4 _ _⟩
end Go.Proofs
