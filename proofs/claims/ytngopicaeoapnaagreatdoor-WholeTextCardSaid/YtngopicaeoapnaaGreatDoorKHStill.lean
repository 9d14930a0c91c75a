import Derived.StillTailTactics
import Derived.Test.YtngopicaeoapnaaGreatDoorKFTy
set_option linter.unusedVariables false
namespace Go.Proofs
open Go
def bv3 (o : Oper) (k : Nat) : Bool := o.after.toList.any fun e => Region.binds .any e && Nat.beq e.on k
def bN0 (o : Oper) (k : Nat) : Bool := o.after.toList.all fun e => !Region.binds .any e || Nat.blt e.on k
def co4 (ops : Array Oper) : Nat → Nat → List Oper → Bool
  | 0, _, _ => true
  | n + 1, k, o :: r => bN0 o k && (r.all fun oj => bv3 oj k || o.apart ops oj) && co4 ops n (k + 1) r
  | _ + 1, _, [] => false
def co5 (last : Oper) : Nat → Nat → List Oper → Bool
  | 0, _, _ => true
  | n + 1, k, o :: r => (bv3 last k || match r with | p :: _ => bv3 p k | [] => false) && co5 last n (k + 1) r
  | _ + 1, _, [] => false
theorem bU8 {o : Oper} {k : Nat} (h : bv3 o k = true) : (o.after.any fun e => Region.binds .any e && e.on == k) = true := by
  obtain ⟨e, he, hb⟩ := List.any_eq_true.1 h
  rw [Array.any_eq_true']
  rw [Bool.and_eq_true] at hb
  exact ⟨e, Array.mem_toList_iff.1 he, by rw [Bool.and_eq_true]; exact ⟨hb.1, by rw [beq_iff_eq]; exact Nat.eq_of_beq_eq_true hb.2⟩⟩
theorem dd1 {ops : Array Oper} {o : Oper} {j k : Nat} (hj : ops[j]? = some o) (h : bv3 o k = true) : Region.waitsFor .any ops j k = true := by
  unfold Region.waitsFor
  rw [hj]
  exact bU8 h
structure dt8 (m k : Nat) (listed : Array Bool) : Prop where
  size : listed.size = m
  lo : ∀ j, j < k → listed.getD j false = true
  hi : ∀ j, k ≤ j → j < m → listed.getD j true = false
theorem dt8.step {m k : Nat} {listed : Array Bool} (h : dt8 m k listed) (hk : k < m) : dt8 m (k + 1) (listed.setIfInBounds k true) := by
  refine ⟨by simp [h.size], fun j hj => ?_, fun j h1 h2 => ?_⟩
  · by_cases e : k = j
    · subst e; simp [hk, h.size]
    · rw [getD_set_ne false e]; exact h.lo j (by omega)
  · rw [getD_set_ne true (by omega)]; exact h.hi j (by omega) h2
theorem dm5 {ops : Array Oper} {g : Nat} : ∀ (n k : Nat) (l : List Oper) (listed : Array Bool), (∀ j, l[j]? = ops[k + j]?) → l.length = ops.size - k → dt8 ops.size k listed → co4 ops n k l = true →
    (∀ listed', dt8 ops.size (k + n) listed' → Region.seqB .any ops g (k + n) listed' = true) → Region.lexHead .any ops g n k listed = true
  | 0, k, l, listed, _, _, hu, _, hs => by rw [Region.lexHead]; exact hs _ hu
  | n + 1, k, [], listed, _, _, _, h, _ => by simp [co4] at h
  | n + 1, k, o :: r, listed, hl, hlen, hu, h, hs => by
    simp only [co4, Bool.and_eq_true] at h
    obtain ⟨⟨h1, h2⟩, h3⟩ := h
    have hk : k < ops.size := by simp at hlen; omega
    have ho : ops[k]? = some o := by simpa using (hl 0).symm
    have hr : ∀ j, r[j]? = ops[k + 1 + j]? := fun j => by
      have := hl (j + 1); rw [show k + 1 + j = k + (j + 1) by omega, ← this]; simp
    rw [Region.lexHead, Bool.and_eq_true, Bool.and_eq_true]
    refine ⟨⟨?_, ?_⟩, dm5 n (k + 1) r _ hr (by simp at hlen ⊢; omega) (hu.step hk) h3 (fun l' hl' => by have := hs l' (by rw [show k + (n + 1) = k + 1 + n by omega]; exact hl'); rw [show k + 1 + n = k + (n + 1) by omega]; exact this)⟩
    · rw [List.contains_iff_mem, mem_ready]
      refine ⟨hu.hi k (Nat.le_refl _) hk, o, ho, fun e he hb => ?_⟩
      have := List.all_eq_true.1 h1 e (Array.mem_toList_iff.2 he)
      rw [hb, Bool.not_true, Bool.false_or] at this
      exact hu.lo e.on (by simpa [Nat.blt_eq] using this)
    · unfold Region.free
      rw [ho]
      refine List.all_eq_true.2 fun j hj => ?_
      have hj := List.mem_range.1 hj
      by_cases hjk : j = k
      · simp [hjk]
      rcases Nat.lt_or_ge j k with hlt | hge
      · have hlo := hu.lo j hlt
        have : listed.getD j true = true := by
          have hjs : j < listed.size := by rw [hu.size]; exact hj
          simp [hjs] at hlo ⊢; exact hlo
        rw [this]; simp
      · obtain ⟨oj, hoj⟩ : ∃ oj, ops[j]? = some oj := ⟨ops[j], by simp [hj]⟩
        have hm : oj ∈ r := by
          have := hr (j - (k + 1)); rw [show k + 1 + (j - (k + 1)) = j by omega, hoj] at this
          exact List.mem_of_getElem? this
        have h4 := List.all_eq_true.1 h2 oj hm
        rw [hoj]
        rw [Bool.or_eq_true] at h4 ⊢
        right
        dsimp only
        rw [Bool.or_eq_true]
        exact h4.imp bU8 id
theorem dR1 {ops : Array Oper} {last : Oper} {N : Nat} (hN : ops[N]? = some last) : ∀ (n k : Nat) (l : List Oper), (∀ j, l[j]? = ops[k + j]?) → k + n = N → co5 last n k l = true →
    ∀ i, k ≤ i → i < N → (List.range (N + 1)).any (fun j => decide (i < j) && Region.waitsFor .any ops j i) = true
  | 0, k, l, _, hkn, _, i, h1, h2 => by omega
  | n + 1, k, [], _, _, h, i, h1, h2 => by simp [co5] at h
  | n + 1, k, o :: r, hl, hkn, h, i, h1, h2 => by
    simp only [co5, Bool.and_eq_true] at h
    have hr : ∀ j, r[j]? = ops[k + 1 + j]? := fun j => by
      have := hl (j + 1); rw [show k + 1 + j = k + (j + 1) by omega, ← this]; simp
    by_cases hi : i = k
    · subst hi
      refine List.any_eq_true.2 ?_
      rcases Bool.or_eq_true _ _ ▸ h.1 with h3 | h3
      · exact ⟨N, List.mem_range.2 (by omega), by rw [Bool.and_eq_true, decide_eq_true_eq]; exact ⟨by omega, dd1 hN h3⟩⟩
      · cases r with
        | nil => cases h3
        | cons p q => exact ⟨i + 1, List.mem_range.2 (by omega), by rw [Bool.and_eq_true, decide_eq_true_eq]; exact ⟨by omega, dd1 (by simpa using (hr 0).symm) h3⟩⟩
    · exact dR1 hN n (k + 1) r hr (by omega) h.2 i (by omega) h2
theorem ea1 {l : List Oper} {n : Nat} {o1 o2 : Oper} (hsel : Region.noSelect l.toArray = true) (hlen : l.length = n + 2) (h1 : l[n]? = some o1) (h2 : l[n + 1]? = some o2)
    (hh : co4 l.toArray n 0 l = true) (hs : co5 o1 n 0 l = true) (he1 : bN0 o1 n = true) (he2 : bN0 o2 (n + 1) = true) (hw : bv3 o2 n = true) : Region.lexTailB .any l.toArray n = true := by
  have hsz : l.toArray.size = n + 2 := by simpa using hlen
  have g1 : l.toArray[n]? = some o1 := by simpa using h1
  have g2 : l.toArray[n + 1]? = some o2 := by simpa using h2
  unfold Region.lexTailB
  simp only [Bool.and_eq_true, decide_eq_true_eq]
  refine ⟨⟨⟨⟨hsel, by omega⟩, ?_⟩, ?_⟩, ?_⟩
  · unfold Region.sinkB
    exact List.all_eq_true.2 fun i hi => dR1 g1 n 0 l (fun j => by simp) (by omega) hs i (Nat.zero_le _) (List.mem_range.1 hi)
  · unfold Region.chainB
    refine List.all_eq_true.2 fun t ht => ?_
    have := List.mem_range.1 ht
    by_cases htn : t ≤ n
    · simp [htn]
    · obtain rfl : t = n + 1 := by omega
      rw [Bool.or_eq_true]; right
      exact dd1 g2 hw
  · rw [show l.toArray.size - n = 2 by omega]
    refine dm5 n 0 l _ (fun j => by simp) (by simp) ⟨by simp, fun j hj => by omega, fun j _ hj => getD_in (by simpa using hj) (getD_replicate_false _ _)⟩ hh (fun listed' hu => ?_)
    rw [Nat.zero_add] at hu ⊢
    have edge : ∀ {o : Oper} {k : Nat} {L : Array Bool}, bN0 o k = true → dt8 l.toArray.size k L → ∀ e ∈ o.after, Region.binds .any e = true → L.getD e.on false = true := fun ho hu e he hb => by
      have := List.all_eq_true.1 ho e (Array.mem_toList_iff.2 he)
      rw [hb, Bool.not_true, Bool.false_or] at this
      exact hu.lo e.on (by simpa [Nat.blt_eq] using this)
    have hu2 := hu.step (by omega)
    have nodup : ∀ L, (Region.ready .any l.toArray L).Nodup := fun L => List.Pairwise.filter _ List.nodup_range
    have one : ∀ {k : Nat} {L : Array Bool}, (∀ j, j ∈ Region.ready .any l.toArray L ↔ j = k) → Region.ready .any l.toArray L = [k] := fun {k L} hj => by
      have hn := nodup L
      cases hr : Region.ready .any l.toArray L with
      | nil => have := (hj k).2 rfl; rw [hr] at this; cases this
      | cons a r =>
        rw [hr] at hn hj
        have ha := (hj a).1 (by simp)
        subst ha
        cases r with
        | nil => rfl
        | cons b r =>
          have hb := (hj b).1 (by simp)
          subst hb
          simp at hn
    have r1 : Region.ready .any l.toArray listed' = [n] := one fun j => by
      rw [mem_ready]
      refine ⟨fun ⟨hj1, oj, hoj, hall⟩ => ?_, fun hj => by subst hj; exact ⟨hu.hi _ (Nat.le_refl _) (by omega), o1, g1, edge he1 hu⟩⟩
      have hjlt := (Array.getElem?_eq_some_iff.1 hoj).1
      by_cases hjn : j < n
      · have := hu.lo j hjn
        have hjs : j < listed'.size := by rw [hu.size]; exact hjlt
        simp [hjs] at this hj1; rw [this] at hj1; cases hj1
      by_cases hj2 : j = n
      · exact hj2
      obtain rfl : j = n + 1 := by omega
      rw [g2] at hoj; injection hoj with hoj; subst hoj
      obtain ⟨e, he, hb⟩ := Array.any_eq_true'.1 (bU8 hw)
      simp only [Bool.and_eq_true, beq_iff_eq] at hb
      have h5 := hall e he hb.1
      rw [hb.2] at h5
      have h6 := hu.hi n (Nat.le_refl _) (by omega)
      have hjs : n < listed'.size := by rw [hu.size]; omega
      simp [hjs] at h5 h6; rw [h5] at h6; cases h6
    have r2 : Region.ready .any l.toArray (listed'.setIfInBounds n true) = [n + 1] := one fun j => by
      rw [mem_ready]
      refine ⟨fun ⟨hj1, oj, hoj, hall⟩ => ?_, fun hj => by subst hj; exact ⟨hu2.hi _ (Nat.le_refl _) (by omega), o2, g2, edge he2 hu2⟩⟩
      have hjlt := (Array.getElem?_eq_some_iff.1 hoj).1
      by_cases hjn : j < n + 1
      · have := hu2.lo j hjn
        have hjs : j < (listed'.setIfInBounds n true).size := by rw [hu2.size]; exact hjlt
        rw [Array.getD_eq_getD_getElem?, Array.getElem?_eq_getElem hjs] at this hj1
        simp at this hj1; rw [this] at hj1; cases hj1
      · omega
    have hu3 := hu2.step (by omega)
    have r3 : Region.ready .any l.toArray ((listed'.setIfInBounds n true).setIfInBounds (n + 1) true) = [] := by
      cases hr : Region.ready .any l.toArray ((listed'.setIfInBounds n true).setIfInBounds (n + 1) true) with
      | nil => rfl
      | cons a r =>
        have ha : a ∈ Region.ready .any l.toArray ((listed'.setIfInBounds n true).setIfInBounds (n + 1) true) := by rw [hr]; simp
        obtain ⟨hj1, oj, hoj, _⟩ := mem_ready.1 ha
        have hjlt := (Array.getElem?_eq_some_iff.1 hoj).1
        have := hu3.lo a (by omega)
        have hjs : a < ((listed'.setIfInBounds n true).setIfInBounds (n + 1) true).size := by rw [hu3.size]; exact hjlt
        rw [Array.getD_eq_getD_getElem?, Array.getElem?_eq_getElem hjs] at this hj1
        simp at this hj1; rw [this] at hj1; cases hj1
    rw [Region.seqB, Region.seqB, Region.seqB, r1, r2, r3]
    simp
def er2 (l : List Oper) (n : Nat) : Bool := match l.drop n with
  | [o1, o2] => Region.noSelect l.toArray && co4 l.toArray n 0 l && co5 o1 n 0 l && bN0 o1 n && bN0 o2 (n + 1) && bv3 o2 n
  | _ => false
theorem ea2 {l : List Oper} {n : Nat} (h : er2 l n = true) : Region.lexTailB .any l.toArray n = true := by
  unfold er2 at h
  split at h
  · rename_i o1 o2 hd
    simp only [Bool.and_eq_true] at h
    obtain ⟨⟨⟨⟨⟨a, b⟩, c⟩, d⟩, e⟩, f⟩ := h
    have h1 : l[n]? = some o1 := by have : (l.drop n)[0]? = some o1 := by rw [hd]; rfl
                                    simpa using this
    have h2 : l[n + 1]? = some o2 := by have : (l.drop n)[1]? = some o2 := by rw [hd]; rfl
                                        simpa using this
    have hl : l.length = n + 2 := by
      have : (l.drop n).length = 2 := by rw [hd]; rfl
      rw [List.length_drop] at this; omega
    exact ea1 a hl h1 h2 b c d e f
  · cases h
end Go.Proofs
