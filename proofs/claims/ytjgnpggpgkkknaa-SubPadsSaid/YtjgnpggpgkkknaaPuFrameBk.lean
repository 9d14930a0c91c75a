/- TLVs of Babel, put one behind the other, are the bytes that they were split of. -/
import Derived.Test.YtjgnpggpgkkknaaPr10
import Derived.Test.YtjgnpggpgkkknaaPr11
import Derived.Test.YtjgnpggpgkkknaaPuBase
import Derived.Test.YtjgnpggpgkkknaaPuFrame
import Derived.Test.YtjgnpggpgkkknaaPuOctet
namespace Go.Proofs.Ytjgnpggpgkkknaa.Pure
open Go.RowKit Go.Proofs.Ytjgnpggpgkkknaa.Pr Go.Proofs.YtjgnpggpgkkknaaW.PrintWords Go.Proofs.YtjgnpggpgkkknaaW.PrintLast Go.Proofs.YtjgnpggpgkkknaaW.PrintMore
set_option linter.unusedVariables false
set_option linter.unusedSimpArgs false
theorem same_loop (l : List Tlv) (hl : l.length ≤ 1152921504606846976) : ∀ (d k i : Nat), l.length - i = d → i ≤ l.length → d < k → roadbookref18_Same.l0 k l l i = some true := by
  intro d
  induction d with
  | zero =>
    intro k i hd hi hk
    obtain ⟨k, rfl⟩ : ∃ m, k = m + 1 := ⟨k - 1, by omega⟩
    rw [roadbookref18_Same.l0, if_neg (by omega)]
  | succ d ih =>
    intro k i hd hi hk
    obtain ⟨k, rfl⟩ : ∃ m, k = m + 1 := ⟨k - 1, by omega⟩
    rw [roadbookref18_Same.l0, if_pos (by omega), if_pos (by omega), if_pos (by omega), if_neg (by simp), w64 (by omega) (by omega)]
    exact ih k (i + 1) (by omega) (by omega) (by omega)
theorem same_refl (l : List Tlv) (hl : l.length ≤ 1152921504606846976) {k : Nat} (hk : l.length < k) : roadbookref18_Same.f k l l = some true := by
  unfold roadbookref18_Same.f
  rw [if_pos rfl]
  exact same_loop l hl l.length k 0 (by omega) (by omega) hk
/-- l are the TLVs of s from p on. -/
def Chain (s : ByteArray) (base : Int) : Int → List Tlv → Prop
  | p, [] => p = s.size
  | p, t :: l => t.f1 = base + p ∧ 0 ≤ p ∧ ((t.f0 = 0 ∧ t.f2 = ⟨#[]⟩ ∧ p < s.size ∧ bt s p = 0 ∧ Chain s base (p + 1) l) ∨
      (t.f0 ≠ 0 ∧ t.f0 = bt s p ∧ p + 2 + bt s (p + 1) ≤ s.size ∧ t.f2 = s.extract (p + 2).toNat (p + 2 + bt s (p + 1)).toNat ∧ Chain s base (p + 2 + bt s (p + 1)) l))
theorem split_chain {s : ByteArray} {base : Int} : ∀ (d : Nat) (p : Int) (acc : List Tlv), 0 ≤ p → p ≤ s.size → s.size - p ≤ d →
    (∃ l, splitG s base d p acc = (acc ++ l, 0, 0) ∧ Chain s base p l ∧ (l.length : Int) ≤ s.size - p) ∨ (∃ x, splitG s base d p acc = ([], base + x, 2) ∧ p ≤ x ∧ x < s.size) := by
  intro d
  induction d with
  | zero =>
    intro p acc h0 h1 h2
    exact .inl ⟨[], by simp [splitG], by simp [Chain]; omega, by simp; omega⟩
  | succ d ih =>
    intro p acc h0 h1 h2
    have hb := bt_nn s (p + 1)
    simp only [splitG]
    by_cases hp : p < s.size
    · rw [if_pos hp]
      by_cases hz : bt s p = 0
      · rw [if_pos hz]
        rcases ih (p + 1) (acc ++ [⟨0, base + p, ⟨#[]⟩⟩]) (by omega) (by omega) (by omega) with ⟨l, h3, h4, h5⟩ | ⟨x, h3, h4, h5⟩
        · exact .inl ⟨⟨0, base + p, ⟨#[]⟩⟩ :: l, by rw [h3]; simp, ⟨rfl, h0, .inl ⟨rfl, rfl, hp, hz, h4⟩⟩, by simp; omega⟩
        · exact .inr ⟨x, h3, by omega, h5⟩
      · rw [if_neg hz]
        by_cases h6 : (s.size : Int) - p < 2 ∨ (s.size : Int) - p - 2 < bt s (p + 1)
        · rw [if_pos h6]
          exact .inr ⟨p, rfl, by omega, hp⟩
        · rw [if_neg h6]
          rcases ih (p + 2 + bt s (p + 1)) (acc ++ [⟨bt s p, base + p, s.extract (p + 2).toNat (p + 2 + bt s (p + 1)).toNat⟩]) (by omega) (by omega) (by omega) with ⟨l, h3, h4, h5⟩ | ⟨x, h3, h4, h5⟩
          · exact .inl ⟨⟨bt s p, base + p, s.extract (p + 2).toNat (p + 2 + bt s (p + 1)).toNat⟩ :: l, by rw [h3]; simp, ⟨rfl, h0, .inr ⟨hz, rfl, by omega, rfl, h4⟩⟩, by simp; omega⟩
          · exact .inr ⟨x, h3, by omega, h5⟩
    · rw [if_neg hp]
      exact .inl ⟨[], by simp, by simp [Chain]; omega, by simp; omega⟩
theorem splitF_cases (s : ByteArray) (base : Int) : (∃ l, splitF s base = (l, 0, 0) ∧ Chain s base 0 l ∧ l.length ≤ s.size) ∨ (∃ x, splitF s base = ([], base + x, 2) ∧ 0 ≤ x ∧ x < s.size) := by
  rcases split_chain (s := s) (base := base) s.size 0 [] (by omega) (by omega) (by omega) with ⟨l, h1, h2, h3⟩ | ⟨x, h1, h2, h3⟩
  · exact .inl ⟨l, by unfold splitF; rw [h1]; simp, h2, by omega⟩
  · exact .inr ⟨x, h1, h2, h3⟩
/-- Another begin of the list changes nothing else. -/
def pre (acc : List Tlv) (r : List Tlv × Int × Int) : List Tlv × Int × Int := if r.2.2 = 0 then (acc ++ r.1, 0, 0) else r
theorem pre_pre (a b : List Tlv) (r : List Tlv × Int × Int) : pre a (pre b r) = pre (a ++ b) r := by
  unfold pre
  by_cases h : r.2.2 = 0 <;> simp [h]
theorem split_acc {s : ByteArray} {base : Int} : ∀ (d : Nat) (p : Int) (acc : List Tlv), splitG s base d p acc = pre acc (splitG s base d p []) := by
  intro d
  induction d with
  | zero => intro p acc; simp [splitG, pre]
  | succ d ih =>
    intro p acc
    simp only [splitG]
    by_cases hp : p < s.size
    · rw [if_pos hp, if_pos hp]
      by_cases hz : bt s p = 0
      · rw [if_pos hz, if_pos hz, ih, ih (p + 1) ([] ++ _), pre_pre]
        simp
      · rw [if_neg hz, if_neg hz]
        by_cases h6 : (s.size : Int) - p < 2 ∨ (s.size : Int) - p - 2 < bt s (p + 1)
        · rw [if_pos h6, if_pos h6]; simp [pre]
        · rw [if_neg h6, if_neg h6, ih, ih (p + 2 + bt s (p + 1)) ([] ++ _), pre_pre]
          simp
    · rw [if_neg hp, if_neg hp]; simp [pre]
theorem bt_left {a b : ByteArray} {p : Int} (h0 : 0 ≤ p) (h : p < a.size) : bt (a ++ b) p = bt a p := by
  obtain ⟨n, rfl⟩ := Int.eq_ofNat_of_zero_le h0
  rw [bt_append, if_pos (by omega)]
theorem bt_right {a b : ByteArray} {p : Int} (h0 : 0 ≤ p) : bt (a ++ b) ((a.size : Int) + p) = bt b p := by
  obtain ⟨n, rfl⟩ := Int.eq_ofNat_of_zero_le h0
  rw [show ((a.size : Int) + (n : Int)) = ((a.size + n : Nat) : Int) by omega, bt_append, if_neg (by omega)]
  congr 1
  omega
theorem ext_left {a b : ByteArray} {p q : Nat} (h : p ≤ q) (hq : q ≤ a.size) : (a ++ b).extract p q = a.extract p q := by
  apply ext_bt
  · rw [size_ext h (by rw [size_append]; omega), size_ext h hq]
  · intro i hi
    rw [size_ext h (by rw [size_append]; omega)] at hi
    rw [bt_extract (by omega) (by omega) (by rw [size_append]; omega), bt_extract (by omega) (by omega) (by omega), bt_left (by omega) (by omega)]
theorem ext_right {a b : ByteArray} {p q : Nat} (h : p ≤ q) (hq : q ≤ b.size) : (a ++ b).extract (a.size + p) (a.size + q) = b.extract p q := by
  apply ext_bt
  · rw [size_ext (by omega) (by rw [size_append]; omega), size_ext h hq]; omega
  · intro i hi
    rw [size_ext (by omega) (by rw [size_append]; omega)] at hi
    rw [bt_extract (by omega) (by omega) (by rw [size_append]; omega), bt_extract (by omega) (by omega) (by omega), show (((a.size + p : Nat) : Int) + (i : Int)) = (a.size : Int) + ((p : Int) + (i : Int)) by omega, bt_right (by omega)]
/-- Behind the first bytes: the TLVs of the others. -/
theorem split_right {a b : ByteArray} {base : Int} : ∀ (d : Nat) (q : Int) (acc : List Tlv), 0 ≤ q → splitG (a ++ b) base d ((a.size : Int) + q) acc = splitG b (base + a.size) d q acc := by
  intro d
  induction d with
  | zero => intro q acc h; rfl
  | succ d ih =>
    intro q acc h
    have hs : ((a ++ b).size : Int) = a.size + b.size := by rw [size_append]; omega
    have e1 : bt (a ++ b) ((a.size : Int) + q) = bt b q := bt_right h
    have e2 : bt (a ++ b) ((a.size : Int) + q + 1) = bt b (q + 1) := by rw [Int.add_assoc]; exact bt_right (by omega)
    have hb := bt_nn b (q + 1)
    simp only [splitG, hs, e1, e2]
    by_cases hq : q < b.size
    · rw [if_pos (by omega), if_pos hq]
      by_cases hz : bt b q = 0
      · rw [if_pos hz, if_pos hz, show (a.size : Int) + q + 1 = a.size + (q + 1) by omega, ih _ _ (by omega), show base + ((a.size : Int) + q) = base + a.size + q by omega]
      · rw [if_neg hz, if_neg hz]
        by_cases h6 : (b.size : Int) - q < 2 ∨ (b.size : Int) - q - 2 < bt b (q + 1)
        · rw [if_pos h6, if_pos (by omega), show base + ((a.size : Int) + q) = base + a.size + q by omega]
        · rw [if_neg h6, if_neg (by omega), show (a.size : Int) + q + 2 + bt b (q + 1) = a.size + (q + 2 + bt b (q + 1)) by omega, ih _ _ (by omega), show base + ((a.size : Int) + q) = base + a.size + q by omega]
          have e3 := ext_right (a := a) (b := b) (p := (q + 2).toNat) (q := (q + 2 + bt b (q + 1)).toNat) (by omega) (by omega)
          rw [show (a.size + (q + 2).toNat) = ((a.size : Int) + q + 2).toNat by omega, show (a.size + (q + 2 + bt b (q + 1)).toNat) = ((a.size : Int) + (q + 2 + bt b (q + 1))).toNat by omega] at e3
          rw [e3]
    · rw [if_neg (by omega), if_neg hq]
/-- The first bytes' TLVs come first, if they are whole. -/
theorem split_left {a b : ByteArray} {base : Int} : ∀ (d e : Nat) (p : Int) (acc l : List Tlv), 0 ≤ p → p ≤ a.size → a.size - p ≤ d → (a.size : Int) + b.size - p ≤ e → splitG a base d p acc = (l, 0, 0) → splitG (a ++ b) base e p acc = splitG (a ++ b) base e a.size l := by
  intro d
  induction d with
  | zero =>
    intro e p acc l h0 h1 h2 h3 h
    have : p = a.size := by omega
    subst this
    simp only [splitG, Prod.mk.injEq] at h
    rw [h.1]
  | succ d ih =>
    intro e p acc l h0 h1 h2 h3 h
    have hs : ((a ++ b).size : Int) = a.size + b.size := by rw [size_append]; omega
    by_cases hp : p < a.size
    · have hb := bt_nn a (p + 1)
      obtain ⟨e, rfl⟩ : ∃ m, e = m + 1 := ⟨e - 1, by omega⟩
      have e1 : bt (a ++ b) p = bt a p := bt_left h0 hp
      have more : splitG (a ++ b) base (e + 1) a.size l = splitG (a ++ b) base e a.size l := splitG_more _ _ e (e + 1) _ _ (by omega) (by omega)
      rw [more]
      simp only [splitG] at h ⊢
      rw [if_pos hp] at h
      rw [if_pos (by omega), e1]
      by_cases hz : bt a p = 0
      · rw [if_pos hz] at h ⊢
        exact ih e (p + 1) _ _ (by omega) (by omega) (by omega) (by omega) h
      · rw [if_neg hz] at h ⊢
        by_cases h6 : (a.size : Int) - p < 2 ∨ (a.size : Int) - p - 2 < bt a (p + 1)
        · rw [if_pos h6] at h
          simp at h
        · rw [if_neg h6] at h
          have e2 : bt (a ++ b) (p + 1) = bt a (p + 1) := bt_left (by omega) (by omega)
          rw [e2, if_neg (by omega), ext_left (by omega) (by omega)]
          exact ih e _ _ _ (by omega) (by omega) (by omega) (by omega) h
    · have : p = a.size := by omega
      subst this
      simp only [splitG, if_neg hp, Prod.mk.injEq] at h
      rw [h.1]
theorem splitF_join (a b : ByteArray) (base : Int) {l : List Tlv} (h : splitF a base = (l, 0, 0)) : splitF (a ++ b) base = pre l (splitF b (base + a.size)) := by
  unfold splitF at h ⊢
  have hs : (a ++ b).size = a.size + b.size := size_append a b
  rw [split_left a.size (a ++ b).size 0 [] l (by omega) (by omega) (by omega) (by omega) h]
  have := split_right (a := a) (b := b) (base := base) (a ++ b).size 0 l (by omega)
  rw [Int.add_zero] at this
  rw [this, split_acc, splitG_more b (base + a.size) b.size (a ++ b).size 0 [] (by omega) (by omega)]
end Go.Proofs.Ytjgnpggpgkkknaa.Pure
