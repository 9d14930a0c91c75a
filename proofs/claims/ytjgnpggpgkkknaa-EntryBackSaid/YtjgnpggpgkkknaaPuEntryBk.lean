/- Entries of RIP come back. -/
import Derived.Test.YtjgnpggpgkkknaaPuBase
import Derived.Test.YtjgnpggpgkkknaaPuEntry
import Derived.Test.YtjgnpggpgkkknaaPuOctet
namespace Go.Proofs.Ytjgnpggpgkkknaa.Pure
open Go.RowKit Go.Proofs.Ytjgnpggpgkkknaa.Pr Go.Proofs.YtjgnpggpgkkknaaW.PrintWords Go.Proofs.YtjgnpggpgkkknaaW.PrintLast Go.Proofs.YtjgnpggpgkkknaaW.PrintMore
set_option linter.unusedVariables false
set_option linter.unusedSimpArgs false
theorem n2_rng (s : ByteArray) (p : Int) : 0 ≤ N2 s p ∧ N2 s p < 65536 := by
  have := bt_nn s p; have := bt_lt s p; have := bt_nn s (p + 1); have := bt_lt s (p + 1)
  unfold N2; omega
theorem n4_rng (s : ByteArray) (p : Int) : 0 ≤ N4 s p ∧ N4 s p < 4294967296 := by
  have := bt_nn s p; have := bt_lt s p; have := bt_nn s (p + 1); have := bt_lt s (p + 1)
  have := bt_nn s (p + 2); have := bt_lt s (p + 2); have := bt_nn s (p + 3); have := bt_lt s (p + 3)
  unfold N4; omega
theorem eget_rng (s : ByteArray) : (0 ≤ (EGet s).1 ∧ (EGet s).1 < 65536) ∧ (0 ≤ (EGet s).2.1 ∧ (EGet s).2.1 < 65536) ∧ (0 ≤ (EGet s).2.2.2.2.2.1 ∧ (EGet s).2.2.2.2.2.1 < 4294967296) := by
  unfold EGet
  split
  · exact ⟨n2_rng _ _, n2_rng _ _, n4_rng _ _⟩
  · simp
theorem bt_b2 {n : Int} (h : 0 ≤ n ∧ n < 65536) : bt (B2 n) 0 = n / 256 ∧ bt (B2 n) 1 = n % 256 := by
  have hr : ∀ x ∈ [n / 256 % 256, n % 256], 0 ≤ x ∧ x < 256 := by intro x hx; simp at hx; omega
  have a := bt_nums _ hr 0
  have b := bt_nums _ hr 1
  simp at a b
  unfold B2
  constructor
  · rw [a]; omega
  · rw [b]
theorem bt_b4 {n : Int} (h : 0 ≤ n ∧ n < 4294967296) : bt (B4 n) 0 = n / 16777216 ∧ bt (B4 n) 1 = n / 65536 % 256 ∧ bt (B4 n) 2 = n / 256 % 256 ∧ bt (B4 n) 3 = n % 256 := by
  have hr : ∀ x ∈ [n / 256 / 256 / 256 % 256, n / 256 / 256 % 256, n / 256 % 256, n % 256], 0 ≤ x ∧ x < 256 := by intro x hx; simp at hx; omega
  have a := bt_nums _ hr 0
  have b := bt_nums _ hr 1
  have c := bt_nums _ hr 2
  have d := bt_nums _ hr 3
  simp at a b c d
  unfold B4
  refine ⟨?_, ?_, c, d⟩
  · rw [a]; omega
  · rw [b]; omega
theorem b2_n2 (s : ByteArray) (p : Nat) (h : p + 2 ≤ s.size) : B2 (N2 s p) = s.extract p (p + 2) := by
  have hr := n2_rng s p
  have := bt_nn s p; have := bt_lt s p; have := bt_nn s (p + 1); have := bt_lt s (p + 1)
  apply ext_bt
  · rw [b2_size, size_ext (by omega) h]; omega
  · intro i hi
    rw [b2_size] at hi
    rw [bt_extract (by omega) (by omega) h]
    have hb := bt_b2 hr
    have : i = 0 ∨ i = 1 := by omega
    rcases this with rfl | rfl
    · rw [show ((0 : Nat) : Int) = 0 from rfl, hb.1, Int.add_zero]; unfold N2; omega
    · rw [show ((1 : Nat) : Int) = 1 from rfl, hb.2]; unfold N2; omega
theorem b4_n4 (s : ByteArray) (p : Nat) (h : p + 4 ≤ s.size) : B4 (N4 s p) = s.extract p (p + 4) := by
  have hr := n4_rng s p
  have := bt_nn s p; have := bt_lt s p; have := bt_nn s (p + 1); have := bt_lt s (p + 1)
  have := bt_nn s (p + 2); have := bt_lt s (p + 2); have := bt_nn s (p + 3); have := bt_lt s (p + 3)
  apply ext_bt
  · rw [b4_size, size_ext (by omega) h]; omega
  · intro i hi
    rw [b4_size] at hi
    rw [bt_extract (by omega) (by omega) h]
    have hb := bt_b4 hr
    have : i = 0 ∨ i = 1 ∨ i = 2 ∨ i = 3 := by omega
    rcases this with rfl | rfl | rfl | rfl
    · rw [show ((0 : Nat) : Int) = 0 from rfl, hb.1, Int.add_zero]; unfold N4; omega
    · rw [show ((1 : Nat) : Int) = 1 from rfl, hb.2.1]; unfold N4; omega
    · rw [show ((2 : Nat) : Int) = 2 from rfl, hb.2.2.1]; unfold N4; omega
    · rw [show ((3 : Nat) : Int) = 3 from rfl, hb.2.2.2]; unfold N4; omega
/-- Pieces put together. -/
theorem ext_join (s : ByteArray) (a b c : Nat) (h1 : a ≤ b) (h2 : b ≤ c) (h3 : c ≤ s.size) : s.extract a b ++ s.extract b c = s.extract a c := by
  apply ext_bt
  · rw [size_append, size_ext h1 (by omega), size_ext h2 h3, size_ext (by omega) h3]; omega
  · intro i hi
    rw [size_append, size_ext h1 (by omega), size_ext h2 h3] at hi
    rw [bt_append, size_ext h1 (by omega)]
    split
    · rw [bt_extract (by omega) (by omega) (by omega), bt_extract (by omega) (by omega) (by omega)]
    · rw [bt_extract (by omega) (by omega) (by omega), bt_extract (by omega) (by omega) (by omega)]
      congr 1
      omega
theorem ext_all (s : ByteArray) : s.extract 0 s.size = s := by
  apply ext_bt
  · rw [size_ext (by omega) (by omega)]; omega
  · intro i hi
    rw [size_ext (by omega) (by omega)] at hi
    rw [bt_extract (by omega) (by omega) (by omega)]
    congr 1
    omega
theorem put_get {s : ByteArray} (h : s.size = 20) : EPut (EGet s).1 (EGet s).2.1 (EGet s).2.2.1 (EGet s).2.2.2.1 (EGet s).2.2.2.2.1 (EGet s).2.2.2.2.2.1 = (s, true) := by
  have e : EGet s = (N2 s 0, N2 s 2, s.extract 4 8, s.extract 8 12, s.extract 12 16, N4 s 16, true) := by simp [EGet, h]
  rw [e]
  unfold EPut
  rw [if_pos ⟨by rw [size_ext (by omega) (by omega)], by rw [size_ext (by omega) (by omega)], by rw [size_ext (by omega) (by omega)], n4_rng _ _, n2_rng _ _, n2_rng _ _⟩]
  have e0 := b2_n2 s 0 (by omega)
  have e2 := b2_n2 s 2 (by omega)
  have e4 := b4_n4 s 16 (by omega)
  simp only [Nat.zero_add, Nat.reduceAdd] at e0 e2 e4
  rw [show N2 s 0 = N2 s ((0 : Nat) : Int) from rfl, e0, show N2 s 2 = N2 s ((2 : Nat) : Int) from rfl, e2, show N4 s 16 = N4 s ((16 : Nat) : Int) from rfl, e4, ext_join _ _ _ _ (by omega) (by omega) (by omega), ext_join _ _ _ _ (by omega) (by omega) (by omega), ext_join _ _ _ _ (by omega) (by omega) (by omega), ext_join _ _ _ _ (by omega) (by omega) (by omega), ext_join _ _ _ _ (by omega) (by omega) (by omega), ← h, ext_all]
theorem cut_left (a b : ByteArray) : (a ++ b).extract 0 a.size = a := by
  apply ext_bt
  · rw [size_ext (by omega) (by rw [size_append]; omega)]; omega
  · intro i hi
    rw [size_ext (by omega) (by rw [size_append]; omega)] at hi
    rw [bt_extract (by omega) (by omega) (by rw [size_append]; omega), show (((0 : Nat) : Int) + (i : Int)) = ((i : Nat) : Int) by omega, bt_append, if_pos (by omega)]
theorem cut_right (a b : ByteArray) (p q : Nat) (h1 : a.size ≤ p) (h2 : p ≤ q) (h3 : q ≤ (a ++ b).size) : (a ++ b).extract p q = b.extract (p - a.size) (q - a.size) := by
  rw [size_append] at h3
  apply ext_bt
  · rw [size_ext h2 (by rw [size_append]; omega), size_ext (by omega) (by omega)]; omega
  · intro i hi
    rw [size_ext h2 (by rw [size_append]; omega)] at hi
    rw [bt_extract (by omega) (by omega) (by rw [size_append]; omega), bt_extract (by omega) (by omega) (by omega), show ((p : Int) + (i : Int)) = ((p + i : Nat) : Int) by omega, bt_append, if_neg (by omega)]
    congr 1
    omega
theorem cut_in (a b : ByteArray) (p q : Nat) (h2 : p ≤ q) (h3 : q ≤ a.size) : (a ++ b).extract p q = a.extract p q := by
  apply ext_bt
  · rw [size_ext h2 (by rw [size_append]; omega), size_ext (by omega) (by omega)]
  · intro i hi
    rw [size_ext h2 (by rw [size_append]; omega)] at hi
    rw [bt_extract (by omega) (by omega) (by rw [size_append]; omega), bt_extract (by omega) (by omega) (by omega), show ((p : Int) + (i : Int)) = ((p + i : Nat) : Int) by omega, bt_append, if_pos (by omega)]
theorem n2_of {s : ByteArray} {p : Nat} {n : Int} (h : 0 ≤ n ∧ n < 65536) (hs : p + 2 ≤ s.size) (e : s.extract p (p + 2) = B2 n) : N2 s p = n := by
  have a := bt_extract (s := s) (a := p) (b := p + 2) (i := 0) (by omega) (by omega) hs
  have b := bt_extract (s := s) (a := p) (b := p + 2) (i := 1) (by omega) (by omega) hs
  rw [e, (bt_b2 h).1, Int.add_zero] at a
  rw [e, (bt_b2 h).2] at b
  unfold N2
  rw [← a, ← b]; omega
theorem n4_of {s : ByteArray} {p : Nat} {n : Int} (h : 0 ≤ n ∧ n < 4294967296) (hs : p + 4 ≤ s.size) (e : s.extract p (p + 4) = B4 n) : N4 s p = n := by
  have a := bt_extract (s := s) (a := p) (b := p + 4) (i := 0) (by omega) (by omega) hs
  have b := bt_extract (s := s) (a := p) (b := p + 4) (i := 1) (by omega) (by omega) hs
  have c := bt_extract (s := s) (a := p) (b := p + 4) (i := 2) (by omega) (by omega) hs
  have d := bt_extract (s := s) (a := p) (b := p + 4) (i := 3) (by omega) (by omega) hs
  rw [e, (bt_b4 h).1, Int.add_zero] at a
  rw [e, (bt_b4 h).2.1] at b
  rw [e, (bt_b4 h).2.2.1] at c
  rw [e, (bt_b4 h).2.2.2] at d
  unfold N4
  rw [← a, ← b, ← c, ← d]; omega
theorem get_put {f t : Int} {a m x : ByteArray} {c : Int} (h : EOk f t a m x c) : EGet (((((B2 f ++ B2 t) ++ a) ++ m) ++ x) ++ B4 c) = (f, t, a, m, x, c, true) := by
  obtain ⟨ha, hm, hx, hc, hf, ht⟩ := h
  have s2 := b2_size f; have t2 := b2_size t; have c4 := b4_size c
  have hs : (((((B2 f ++ B2 t) ++ a) ++ m) ++ x) ++ B4 c).size = 20 := by simp only [size_append]; omega
  have p1 : (((((B2 f ++ B2 t) ++ a) ++ m) ++ x) ++ B4 c).extract 0 2 = B2 f := by
    simp only [append_assoc]
    have := cut_left (B2 f) (B2 t ++ (a ++ (m ++ (x ++ B4 c))))
    rwa [s2] at this
  have cut : ∀ (l y r : ByteArray) (p q : Nat), l.size = p → q = p + y.size → (l ++ (y ++ r)).extract p q = y := fun l y r p q h1 h2 => by
    rw [cut_right _ _ _ _ (by omega) (by omega) (by simp only [size_append]; omega), h1, h2, Nat.sub_self, Nat.add_sub_cancel_left, cut_left]
  have p2 : (((((B2 f ++ B2 t) ++ a) ++ m) ++ x) ++ B4 c).extract 2 4 = B2 t := by
    simp only [append_assoc]
    exact cut (B2 f) (B2 t) _ 2 4 s2 (by omega)
  have p3 : (((((B2 f ++ B2 t) ++ a) ++ m) ++ x) ++ B4 c).extract 4 8 = a := by
    have := cut (B2 f ++ B2 t) a (m ++ (x ++ B4 c)) 4 8 (by simp only [size_append]; omega) (by omega)
    simpa only [append_assoc] using this
  have p4 : (((((B2 f ++ B2 t) ++ a) ++ m) ++ x) ++ B4 c).extract 8 12 = m := by
    have := cut ((B2 f ++ B2 t) ++ a) m (x ++ B4 c) 8 12 (by simp only [size_append]; omega) (by omega)
    simpa only [append_assoc] using this
  have p5 : (((((B2 f ++ B2 t) ++ a) ++ m) ++ x) ++ B4 c).extract 12 16 = x := by
    have := cut (((B2 f ++ B2 t) ++ a) ++ m) x (B4 c) 12 16 (by simp only [size_append]; omega) (by omega)
    simpa only [append_assoc] using this
  have p6 : (((((B2 f ++ B2 t) ++ a) ++ m) ++ x) ++ B4 c).extract 16 20 = B4 c := by
    have := cut ((((B2 f ++ B2 t) ++ a) ++ m) ++ x) (B4 c) ⟨#[]⟩ 16 20 (by simp only [size_append]; omega) (by omega)
    simpa only [append_empty] using this
  unfold EGet
  rw [if_pos hs, p3, p4, p5]
  have q1 := n2_of (p := 0) hf (by omega) p1
  have q2 := n2_of (p := 2) ht (by omega) p2
  have q6 := n4_of (p := 16) hc (by omega) p6
  rw [show ((0 : Nat) : Int) = 0 from rfl] at q1
  rw [show ((2 : Nat) : Int) = 2 from rfl] at q2
  rw [show ((16 : Nat) : Int) = 16 from rfl] at q6
  rw [q1, q2, q6]
end Go.Proofs.Ytjgnpggpgkkknaa.Pure
