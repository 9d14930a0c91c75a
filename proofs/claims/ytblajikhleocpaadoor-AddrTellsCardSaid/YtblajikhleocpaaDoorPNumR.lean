/- Numbers in a text: digits, their value, and that the plain way of writing is the only one that is read. -/
import Derived.Test.YtblajikhleocpaaDoorPBase
import Derived.Test.YtblajikhleocpaaDoorPCur
import Derived.Test.YtblajikhleocpaaDoorPOct
import Derived.Test.YtblajikhleocpaaDoorFQ0
import Derived.Lib.Bytealg
set_option linter.unusedVariables false
set_option linter.unusedSimpArgs false
set_option maxRecDepth 100000
namespace Go.VP
open Go Go.VI
def dg : Bs := [48, 49, 50, 51, 52, 53, 54, 55, 56, 57, 97, 98, 99, 100, 101, 102]
def ix (c : UInt8) : Nat := dg.idxOf c
theorem all_u8 {p : UInt8 → Bool} (h : ((List.range 256).all fun n => p (UInt8.ofNat n)) = true) (c : UInt8) : p c = true := by
  have := List.all_eq_true.1 h c.toNat (List.mem_range.2 c.toNat_lt)
  simpa using this
theorem ix_lib (c : UInt8) : Lib.indexByte dg c = if ix c < 16 then ((ix c : Nat) : Int) else -1 := by
  have := all_u8 (p := fun c => decide (Lib.indexByte dg c = if ix c < 16 then ((ix c : Nat) : Int) else -1)) (by decide +kernel) c
  exact of_decide_eq_true this
theorem digitC_ix (c : UInt8) (h : ix c < 16) : digitC (ix c) = c := by
  have := all_u8 (p := fun c => decide (ix c < 16 → digitC (ix c) = c)) (by decide +kernel) c
  exact of_decide_eq_true this h
theorem ix_digitC : ∀ n, n < 16 → ix (digitC n) = n := by decide +kernel
theorem ix_zero (c : UInt8) : ix c = 0 ↔ c = 48 := by
  have := all_u8 (p := fun c => decide (ix c = 0 ↔ c = 48)) (by decide +kernel) c
  exact of_decide_eq_true this
theorem dg_at : ∀ i, i < 16 → dg[i]? = some (digitC i) := by decide +kernel
theorem dg_cut : ∀ i, i < 16 → (dg.take (i + 1)).drop i = [digitC i] := by decide +kernel
def dv (b : Nat) (c : UInt8) : Option Nat := if ix c < b then some (ix c) else none
def vN (b : Nat) : Bs → Nat → Option Nat
  | [], x => some x
  | c :: r, x => match dv b c with | none => none | some d => vN b r (x * b + d)
theorem vN_append (b : Nat) : ∀ (s t : Bs) (x : Nat), vN b (s ++ t) x = (vN b s x).bind (vN b t)
  | [], t, x => rfl
  | c :: r, t, x => by
    rw [List.cons_append, vN, vN]
    cases dv b c with
    | none => rfl
    | some d => exact vN_append b r t _
theorem vN_le (b : Nat) (hb : 1 ≤ b) : ∀ (s : Bs) (x v : Nat), vN b s x = some v → x ≤ v
  | [], x, v, h => by cases h; exact Nat.le_refl _
  | c :: r, x, v, h => by
    rw [vN] at h
    split at h
    · cases h
    · have := vN_le b hb r _ v h
      have : x * 1 ≤ x * b := Nat.mul_le_mul_left _ hb
      omega
theorem vN_lt (b : Nat) : ∀ (s : Bs) (x v : Nat), vN b s x = some v → v < (x + 1) * b ^ s.length
  | [], x, v, h => by cases h; simp
  | c :: r, x, v, h => by
    rw [vN] at h
    split at h
    · cases h
    · rename_i d hd
      have h1 := vN_lt b r _ v h
      unfold dv at hd
      split at hd
      · rename_i hlt
        cases hd
        have h2 : x * b + ix c + 1 ≤ (x + 1) * b := by rw [Nat.add_mul]; omega
        have h3 := Nat.mul_le_mul_right (b ^ r.length) h2
        rw [List.length_cons, Nat.pow_succ, Nat.mul_comm (b ^ r.length) b, ← Nat.mul_assoc]
        omega
      · cases hd
def can (s : Bs) : Prop := s ≠ [] ∧ (s.head? = some 48 → s = [48])
theorem numR_ne (b : Nat) : ∀ (k n : Nat), numR b (k + 1) n ≠ []
  | k, n => by
    rw [numR]
    split
    · simp
    · simp
theorem numR_fuel (b : Nat) (hb : 2 ≤ b) : ∀ (k k' n : Nat), n < b ^ k → n < b ^ k' → 1 ≤ k → 1 ≤ k' → numR b k n = numR b k' n
  | k + 1, k' + 1, n, h, h', _, _ => by
    rw [numR, numR]
    by_cases hn : n < b
    · rw [if_pos hn, if_pos hn]
    · rw [if_neg hn, if_neg hn]
      have h1 : n / b < b ^ k := by rw [Nat.pow_succ] at h; exact Nat.div_lt_of_lt_mul (by rw [Nat.mul_comm]; exact h)
      have h2 : n / b < b ^ k' := by rw [Nat.pow_succ] at h'; exact Nat.div_lt_of_lt_mul (by rw [Nat.mul_comm]; exact h')
      have k1 : 1 ≤ k := by cases k with | zero => simp at h; omega | succ k => omega
      have k2 : 1 ≤ k' := by cases k' with | zero => simp at h'; omega | succ k => omega
      rw [numR_fuel b hb k k' (n / b) h1 h2 k1 k2]
/-- What is read is written so. -/
theorem numR_of (b : Nat) (hb : 2 ≤ b) (h16 : b ≤ 16) : ∀ (n : Nat) (s : Bs) (k v : Nat), s.length = n → n ≤ k → can s → vN b s 0 = some v → numR b k v = s
  | 0, s, k, v, hl, hk, hc, hv => absurd (List.length_eq_zero_iff.1 hl) hc.1
  | n + 1, s, k, v, hl, hk, hc, hv => by
    obtain ⟨k, rfl⟩ : ∃ j, k = j + 1 := ⟨k - 1, by omega⟩
    rcases List.eq_nil_or_concat s with rfl | ⟨t, c, hs⟩
    · exact absurd rfl hc.1
    rw [List.concat_eq_append] at hs
    subst hs
    rw [vN_append] at hv
    obtain ⟨u, hu, hv⟩ := Option.bind_eq_some_iff.1 hv
    rw [vN] at hv
    split at hv
    · cases hv
    rename_i d hd
    unfold dv at hd
    split at hd
    rotate_left
    · cases hd
    rename_i hlt
    cases hd
    rw [vN] at hv
    cases hv
    rcases t with _ | ⟨h, r⟩
    · cases hu
      rw [numR, if_pos (by simpa using hlt)]
      simp [digitC_ix c (by omega)]
    · have hh : h ≠ 48 := by
        intro e
        subst e
        have := hc.2 rfl
        simp at this
      have hct : can (h :: r) := ⟨by simp, fun e => absurd (by simpa using e) hh⟩
      have hu1 : 1 ≤ u := by
        rw [vN] at hu
        split at hu
        · cases hu
        rename_i d hd
        have := vN_le b (by omega) r _ u hu
        unfold dv at hd
        split at hd
        · cases hd
          have : ix h ≠ 0 := fun e => hh ((ix_zero h).1 e)
          omega
        · cases hd
      have hge : b ≤ u * b := Nat.le_mul_of_pos_left b hu1
      have e1 : (u * b + ix c) / b = u := by rw [Nat.mul_comm, Nat.mul_add_div (by omega), Nat.div_eq_of_lt hlt]; omega
      have e2 : (u * b + ix c) % b = ix c := by rw [Nat.mul_comm, Nat.mul_add_mod, Nat.mod_eq_of_lt hlt]
      rw [numR, if_neg (by omega), e1, e2, digitC_ix c (by omega), numR_of b hb h16 n (h :: r) k u (by simpa using hl) (by omega) hct hu]
/-- What is written is read. -/
theorem of_numR (b : Nat) (hb : 2 ≤ b) (h16 : b ≤ 16) : ∀ (k v : Nat), v < b ^ k → 1 ≤ k → vN b (numR b k v) 0 = some v ∧ can (numR b k v)
  | k + 1, v, hv, _ => by
    rw [numR]
    by_cases h : v < b
    · rw [if_pos h, vN]
      have e := ix_digitC v (by omega)
      have : dv b (digitC v) = some v := by unfold dv; rw [e, if_pos h]
      rw [this]
      refine ⟨by simp [vN], by simp, fun e => ?_⟩
      simp at e
      rw [e]
    · rw [if_neg h]
      have h1 : v / b < b ^ k := by rw [Nat.pow_succ] at hv; exact Nat.div_lt_of_lt_mul (by rw [Nat.mul_comm]; exact hv)
      have k1 : 1 ≤ k := by cases k with | zero => simp at hv; omega | succ k => omega
      obtain ⟨i1, i2⟩ := of_numR b hb h16 k (v / b) h1 k1
      have hm := Nat.mod_lt v (show b > 0 by omega)
      have e := ix_digitC (v % b) (by omega)
      have hd : dv b (digitC (v % b)) = some (v % b) := by unfold dv; rw [e, if_pos hm]
      refine ⟨?_, by simp, fun e => ?_⟩
      · rw [vN_append, i1]
        show vN b [digitC (v % b)] (v / b) = _
        rw [vN, hd]
        show vN b [] _ = _
        rw [vN, Nat.mul_comm, Nat.div_add_mod]
      · obtain ⟨h0, r0, e0⟩ := List.exists_cons_of_ne_nil i2.1
        have e3 := i2.2 (by rw [e0] at e ⊢; simpa using e)
        rw [e3] at i1
        have : vN b [48] 0 = some 0 := by
          rw [vN]
          have : dv b 48 = some 0 := by unfold dv; rw [show ix 48 = 0 from by decide +kernel, if_pos (by omega)]
          rw [this]
          show vN b [] (0 * b + 0) = _
          rw [vN, Nat.zero_mul]
        rw [this] at i1
        have : v / b = 0 := (Option.some.inj i1).symm
        have := Nat.div_eq_zero_iff.1 this
        omega
def valM (b top : Nat) (s : Bs) : Option Nat := match vN b s 0 with
  | some v => if v < top ∧ numR b 9 v = s then some v else none
  | none => none
theorem valM_some {b top : Nat} {s : Bs} {v : Nat} (h : valM b top s = some v) : v < top ∧ numR b 9 v = s := by
  unfold valM at h
  split at h
  · split at h
    · rename_i hh; cases h; exact hh
    · cases h
  · cases h
theorem valM_numR {b top v : Nat} (hb : 2 ≤ b) (h16 : b ≤ 16) (h9 : top ≤ b ^ 9) (hv : v < top) : valM b top (numR b 9 v) = some v := by
  unfold valM
  rw [(of_numR b hb h16 9 v (by omega) (by omega)).1]
  simp only [hv, and_self, if_true]
def goN (b top : Nat) : Bs → Nat → Option Nat
  | [], x => some x
  | c :: r, x => match dv b c with | none => none | some d => if top ≤ x * b + d then none else goN b top r (x * b + d)
theorem goN_is {b top : Nat} (hb : 1 ≤ b) : ∀ (s : Bs) (x : Nat), x < top → goN b top s x = match vN b s x with | some v => if v < top then some v else none | none => none
  | [], x, h => by rw [goN, vN]; simp [h]
  | c :: r, x, h => by
    rw [goN, vN]
    cases dv b c with
    | none => rfl
    | some d =>
      dsimp only
      by_cases ht : top ≤ x * b + d
      · rw [if_pos ht]
        cases hv : vN b r (x * b + d) with
        | none => rfl
        | some v =>
          have := vN_le b hb r _ v hv
          dsimp only
          rw [if_neg (by omega)]
      · rw [if_neg ht]
        exact goN_is hb r _ (by omega)
theorem val_of_can {b top : Nat} (hb : 2 ≤ b) (h16 : b ≤ 16) (h9 : top ≤ b ^ 9) (ht : 0 < top) {s : Bs} (hc : can s) : goN b top s 0 = valM b top s := by
  rw [goN_is (by omega) s 0 ht]
  unfold valM
  cases hv : vN b s 0 with
  | none => rfl
  | some v =>
    dsimp only
    by_cases hlt : v < top
    · have h1 := numR_of b hb h16 s.length s s.length v rfl (Nat.le_refl _) hc hv
      have h2 := vN_lt b s 0 v hv
      have hl : 1 ≤ s.length := by
        rcases s with _ | ⟨c, r⟩
        · exact absurd rfl hc.1
        · simp
      rw [if_pos hlt, if_pos ⟨hlt, by rw [numR_fuel b hb 9 s.length v (by omega) (by simpa using h2) (by omega) hl]; exact h1⟩]
    · rw [if_neg hlt, if_neg (by omega)]
theorem val_not_can {b top : Nat} (hb : 2 ≤ b) (h16 : b ≤ 16) (h9 : top ≤ b ^ 9) {s : Bs} (hc : ¬ can s) : valM b top s = none := by
  cases h : valM b top s with
  | none => rfl
  | some v =>
    have h1 := valM_some h
    have h2 := (of_numR b hb h16 9 v (by omega) (by omega)).2
    rw [h1.2] at h2
    exact absurd h2 hc
end Go.VP
