/- Text and Read of addresses: there and back. -/
import Derived.Test.YtblajikhleocpaaDoorPBase
import Derived.Test.YtblajikhleocpaaDoorPCur
import Derived.Test.YtblajikhleocpaaDoorPOct
import Derived.Test.YtblajikhleocpaaDoorPNumR
import Derived.Test.YtblajikhleocpaaDoorPReadA
import Derived.Test.YtblajikhleocpaaDoorXM
import Derived.Test.YtblajikhleocpaaDoorX2
import Derived.Test.YtblajikhleocpaaDoorX6
set_option linter.unusedVariables false
set_option linter.unusedSimpArgs false
set_option maxRecDepth 100000
namespace Go.VP
open Go Go.VI
theorem digitC_no (c : UInt8) (hc : ix c = 16) : ∀ n, n < 16 → digitC n ≠ c := fun n hn e => by
  have := ix_digitC n hn
  rw [e] at this
  omega
theorem numR_no {b : Nat} (hb : 2 ≤ b) (h16 : b ≤ 16) (c : UInt8) (hc : ix c = 16) : ∀ (k n : Nat), c ∉ numR b k n
  | 0, n => by simp [numR]
  | k + 1, n => by
    rw [numR]
    split
    · intro h
      exact digitC_no c hc n (by omega) (List.mem_singleton.1 h).symm
    · intro h
      rcases List.mem_append.1 h with h | h
      · exact numR_no hb h16 c hc k _ h
      · have := Nat.mod_lt n (show b > 0 by omega)
        exact digitC_no c hc _ (by omega) (List.mem_singleton.1 h).symm
theorem splitC_one (c : UInt8) : ∀ (s : Bs), c ∉ s → splitC c s = [s]
  | [], _ => rfl
  | x :: r, h => by
    rw [splitC, if_neg (fun e => h (by simp [e])), splitC_one c r (fun e => h (by simp [e]))]
theorem splitC_part (c : UInt8) (t : Bs) : ∀ (s : Bs), c ∉ s → splitC c (s ++ c :: t) = s :: splitC c t
  | [], _ => by rw [List.nil_append, splitC, if_pos rfl]
  | x :: r, h => by
    rw [List.cons_append, splitC, if_neg (fun e => h (by simp [e])), splitC_part c t r (fun e => h (by simp [e]))]
theorem splitC_nn (c : UInt8) (l : Bs) : splitC c l ≠ [] := fun h => by
  have := splitC_len c l
  rw [h] at this
  simp at this
def joinC (c : UInt8) : List Bs → Bs
  | [] => []
  | [p] => p
  | p :: q :: r => p ++ c :: joinC c (q :: r)
theorem join_split (c : UInt8) : ∀ (s : Bs), joinC c (splitC c s) = s
  | [] => rfl
  | x :: r => by
    have ih := join_split c r
    rw [splitC]
    by_cases h : x = c
    · rw [if_pos h]
      cases hs : splitC c r with
      | nil => exact absurd hs (splitC_nn c r)
      | cons q t => rw [joinC, ← hs, ih, h]; rfl
    · rw [if_neg h]
      cases hs : splitC c r with
      | nil => exact absurd hs (splitC_nn c r)
      | cons q t =>
        rw [hs] at ih
        dsimp only
        cases t with
        | nil => rw [joinC] at ih ⊢; rw [ih]
        | cons q2 t => rw [joinC] at ih ⊢; rw [List.cons_append, ih]
theorem splitC_join (c : UInt8) : ∀ (l : List Bs), l ≠ [] → (∀ p ∈ l, c ∉ p) → splitC c (joinC c l) = l
  | [], h, _ => absurd rfl h
  | [p], _, h => by rw [joinC, splitC_one c p (h p (by simp))]
  | p :: q :: r, _, h => by
    rw [joinC, splitC_part c _ p (h p (by simp)), splitC_join c (q :: r) (by simp) (fun x hx => h x (by simp at hx ⊢; exact .inr hx))]
theorem splitC_count (c : UInt8) (s : Bs) (h : c ∉ s) : (splitC c s).length = 1 := by rw [splitC_one c s h]; rfl
theorem joinC_no (c d : UInt8) (h : c ≠ d) : ∀ (l : List Bs), (∀ p ∈ l, c ∉ p) → c ∉ joinC d l
  | [], _ => by simp [joinC]
  | [p], hl => by rw [joinC]; exact hl p (by simp)
  | p :: q :: r, hl => by
    rw [joinC]
    intro hm
    rcases List.mem_append.1 hm with hm | hm
    · exact hl p (by simp) hm
    · rcases List.mem_cons.1 hm with hm | hm
      · exact h hm
      · exact joinC_no c d h (q :: r) (fun x hx => hl x (by simp at hx ⊢; exact .inr hx)) hm
/-- The numbers of an address. -/
def ns (two : Bool) (a : Bs) (i : Nat) : Nat := if two then 256 * (a.getD (2 * i) 0).toNat + (a.getD (2 * i + 1) 0).toNat else (a.getD i 0).toNat
theorem pre4_join (a : Bs) : pre4 a 4 = joinC 46 ([0, 1, 2, 3].map fun i => numR 10 9 (ns false a i)) := by
  simp [pre4, joinC, ns]
theorem pre16_join (a : Bs) : pre16 a 8 = joinC 58 ([0, 1, 2, 3, 4, 5, 6, 7].map fun i => numR 16 9 (ns true a i)) := by
  simp [pre16, joinC, ns]
theorem rdG_of {b top : Nat} (two : Bool) (hb : 2 ≤ b) (h16 : b ≤ 16) (h9 : top ≤ b ^ 9) (f : Nat → Nat) : ∀ (l : List Nat) (acc : Bs), (∀ i ∈ l, f i < top) → rdG b top two (l.map fun i => numR b 9 (f i)) acc = some (acc ++ (l.map fun i => bytesN two (f i)).flatten)
  | [], acc, _ => by simp [rdG]
  | i :: l, acc, h => by
    rw [List.map_cons, rdG, valM_numR hb h16 h9 (h i (by simp))]
    dsimp only
    rw [rdG_of two hb h16 h9 f l _ (fun j hj => h j (by simp [hj]))]
    simp
theorem of_pair (x y : UInt8) : bytesN true (256 * x.toNat + y.toNat) = [x, y] := by
  have h1 := x.toNat_lt
  have h2 := y.toNat_lt
  unfold bytesN
  rw [if_pos rfl, show (256 * x.toNat + y.toNat) / 256 = x.toNat by omega]
  have : UInt8.ofNat (256 * x.toNat + y.toNat) = y := by
    apply UInt8.toNat.inj
    simp <;> omega
  simp [this]
theorem of_one (x : UInt8) : bytesN false x.toNat = [x] := by
  unfold bytesN
  rw [if_neg (by decide)]; simp
theorem read_text4 {a : Bs} (h : a.length = 4) : readM (pre4 a 4) = some a := by
  have hno : ∀ p ∈ ([0, 1, 2, 3].map fun i => numR 10 9 (ns false a i)), (46 : UInt8) ∉ p := by
    intro p hp
    obtain ⟨i, _, rfl⟩ := List.mem_map.1 hp
    exact numR_no (by decide) (by decide) 46 (by decide +kernel) 9 _
  unfold readM
  rw [pre4_join, splitC_join 46 _ (by simp) hno, if_pos (by simp), rdG_of false (by decide) (by decide) (by decide) (ns false a) _ _ (fun i _ => by unfold ns; have := (a.getD i 0).toNat_lt; simpa using this)]
  match a, h with
  | [x0, x1, x2, x3], _ => simp [ns, of_one]
theorem read_text16 {a : Bs} (h : a.length = 16) : readM (pre16 a 8) = some a := by
  have hno : ∀ c : UInt8, ix c = 16 → ∀ p ∈ ([0, 1, 2, 3, 4, 5, 6, 7].map fun i => numR 16 9 (ns true a i)), c ∉ p := by
    intro c hc p hp
    obtain ⟨i, _, rfl⟩ := List.mem_map.1 hp
    exact numR_no (by decide) (by decide) c hc 9 _
  unfold readM
  rw [pre16_join, splitC_one 46 _ (joinC_no 46 58 (by decide) _ (hno 46 (by decide +kernel))), if_neg (by simp), splitC_join 58 _ (by simp) (hno 58 (by decide +kernel)), if_pos (by simp), rdG_of true (by decide) (by decide) (by decide) (ns true a) _ _ (fun i _ => by
    unfold ns
    have h1 := (a.getD (2 * i) 0).toNat_lt
    have h2 := (a.getD (2 * i + 1) 0).toNat_lt
    rw [if_pos rfl]; omega)]
  match a, h with
  | [x0, x1, x2, x3, x4, x5, x6, x7, x8, x9, x10, x11, x12, x13, x14, x15], _ => simp [ns, of_pair]
/-- What was read: the numbers, and the texts are theirs. -/
theorem rdG_inv {b top : Nat} (two : Bool) : ∀ (l : List Bs) (acc a : Bs), rdG b top two l acc = some a → ∃ vs : List Nat, (∀ v ∈ vs, v < top) ∧ l = vs.map (fun v => numR b 9 v) ∧ a = acc ++ (vs.map (bytesN two)).flatten
  | [], acc, a, h => by cases h; exact ⟨[], by simp, rfl, by simp⟩
  | p :: l, acc, a, h => by
    rw [rdG] at h
    cases hv : valM b top p with
    | none => rw [hv] at h; cases h
    | some v =>
      rw [hv] at h
      dsimp only at h
      obtain ⟨vs, h1, h2, h3⟩ := rdG_inv two l _ a h
      have h4 := valM_some hv
      exact ⟨v :: vs, by simpa using ⟨h4.1, h1⟩, by rw [List.map_cons, h4.2, h2], by rw [h3]; simp⟩
theorem toNat_of {v : Nat} (h : v < 256) : (UInt8.ofNat v).toNat = v := by simp; omega
theorem toNat_pair {v : Nat} (h : v < 65536) : 256 * (UInt8.ofNat (v / 256)).toNat + (UInt8.ofNat v).toNat = v := by simp; omega
theorem text_read {s a : Bs} (h : readM s = some a) : textA a = (s, true) := by
  unfold readM at h
  by_cases h4 : (splitC 46 s).length = 4
  · rw [if_pos h4] at h
    obtain ⟨vs, h1, h2, h3⟩ := rdG_inv false _ _ _ h
    have h5 := join_split 46 s
    rw [h2, List.length_map] at h4
    match vs, h4 with
    | [v0, v1, v2, v3], _ =>
      simp only [List.mem_cons, List.mem_nil_iff, or_false, forall_eq_or_imp, forall_eq] at h1
      obtain ⟨a0, a1, a2, a3⟩ := h1
      have e : a = [UInt8.ofNat v0, UInt8.ofNat v1, UInt8.ofNat v2, UInt8.ofNat v3] := by rw [h3]; simp [bytesN]
      subst e
      unfold textA
      rw [if_pos (by simp), pre4_join, ← h5, h2]
      show (joinC 46 [numR 10 9 (UInt8.ofNat v0).toNat, numR 10 9 (UInt8.ofNat v1).toNat, numR 10 9 (UInt8.ofNat v2).toNat, numR 10 9 (UInt8.ofNat v3).toNat], true) = _
      rw [toNat_of a0, toNat_of a1, toNat_of a2, toNat_of a3]
      rfl
  · rw [if_neg h4] at h
    by_cases h8 : (splitC 58 s).length = 8
    · rw [if_pos h8] at h
      obtain ⟨vs, h1, h2, h3⟩ := rdG_inv true _ _ _ h
      have h5 := join_split 58 s
      rw [h2, List.length_map] at h8
      match vs, h8 with
      | [v0, v1, v2, v3, v4, v5, v6, v7], _ =>
        simp only [List.mem_cons, List.mem_nil_iff, or_false, forall_eq_or_imp, forall_eq] at h1
        obtain ⟨a0, a1, a2, a3, a4, a5, a6, a7⟩ := h1
        have e : a = [UInt8.ofNat (v0 / 256), UInt8.ofNat v0, UInt8.ofNat (v1 / 256), UInt8.ofNat v1, UInt8.ofNat (v2 / 256), UInt8.ofNat v2, UInt8.ofNat (v3 / 256), UInt8.ofNat v3, UInt8.ofNat (v4 / 256), UInt8.ofNat v4, UInt8.ofNat (v5 / 256), UInt8.ofNat v5, UInt8.ofNat (v6 / 256), UInt8.ofNat v6, UInt8.ofNat (v7 / 256), UInt8.ofNat v7] := by rw [h3]; simp [bytesN]
        subst e
        unfold textA
        rw [if_neg (by simp), if_pos (by simp), pre16_join, ← h5, h2]
        have t0 := toNat_pair a0
        have t1 := toNat_pair a1
        have t2 := toNat_pair a2
        have t3 := toNat_pair a3
        have t4 := toNat_pair a4
        have t5 := toNat_pair a5
        have t6 := toNat_pair a6
        have t7 := toNat_pair a7
        show (joinC 58 [numR 16 9 (256 * (UInt8.ofNat (v0 / 256)).toNat + (UInt8.ofNat v0).toNat), numR 16 9 (256 * (UInt8.ofNat (v1 / 256)).toNat + (UInt8.ofNat v1).toNat), numR 16 9 (256 * (UInt8.ofNat (v2 / 256)).toNat + (UInt8.ofNat v2).toNat), numR 16 9 (256 * (UInt8.ofNat (v3 / 256)).toNat + (UInt8.ofNat v3).toNat), numR 16 9 (256 * (UInt8.ofNat (v4 / 256)).toNat + (UInt8.ofNat v4).toNat), numR 16 9 (256 * (UInt8.ofNat (v5 / 256)).toNat + (UInt8.ofNat v5).toNat), numR 16 9 (256 * (UInt8.ofNat (v6 / 256)).toNat + (UInt8.ofNat v6).toNat), numR 16 9 (256 * (UInt8.ofNat (v7 / 256)).toNat + (UInt8.ofNat v7).toNat)], true) = _
        rw [t0, t1, t2, t3, t4, t5, t6, t7]
        rfl
    · rw [if_neg h8] at h; cases h
theorem numR_le (b : Nat) : ∀ (k n : Nat), (numR b k n).length ≤ k
  | 0, n => by simp [numR]
  | k + 1, n => by
    rw [numR]
    split
    · simp
    · have := numR_le b k (n / b)
      rw [List.length_append, List.length_singleton]; omega
theorem joinC_len (c : UInt8) : ∀ (l : List Bs), (∀ p ∈ l, p.length ≤ 9) → (joinC c l).length ≤ 10 * l.length
  | [], _ => by simp [joinC]
  | [p], h => by rw [joinC]; have := h p (by simp); simp; omega
  | p :: q :: r, h => by
    have h1 := h p (by simp)
    have h2 := joinC_len c (q :: r) (fun x hx => h x (by simp at hx ⊢; exact .inr hx))
    rw [joinC, List.length_append, List.length_cons, List.length_cons (a := p)]
    omega
theorem text_len (a : Bs) : (textA a).1.length ≤ 1000000 := by
  unfold textA
  split
  · rw [pre4_join]
    have := joinC_len 46 ([0, 1, 2, 3].map fun i => numR 10 9 (ns false a i)) (fun p hp => by
      obtain ⟨i, _, rfl⟩ := List.mem_map.1 hp
      exact numR_le _ _ _)
    refine Nat.le_trans this ?_
    simp
  · split
    · rw [pre16_join]
      have := joinC_len 58 ([0, 1, 2, 3, 4, 5, 6, 7].map fun i => numR 16 9 (ns true a i)) (fun p hp => by
        obtain ⟨i, _, rfl⟩ := List.mem_map.1 hp
        exact numR_le _ _ _)
      refine Nat.le_trans this ?_
      simp
    · simp
end Go.VP
