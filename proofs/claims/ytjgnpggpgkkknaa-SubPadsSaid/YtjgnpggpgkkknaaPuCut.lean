/- Pieces of bytes, put together and cut out again; numbers of two and four bytes. -/
import Derived.Test.YtjgnpggpgkkknaaPuBase
import Derived.Test.YtjgnpggpgkkknaaPuOctet
namespace Go.Proofs.Ytjgnpggpgkkknaa.Pure
open Go.RowKit Go.Proofs.Ytjgnpggpgkkknaa.Pr Go.Proofs.YtjgnpggpgkkknaaW.PrintWords Go.Proofs.YtjgnpggpgkkknaaW.PrintLast Go.Proofs.YtjgnpggpgkkknaaW.PrintMore
set_option linter.unusedVariables false
set_option linter.unusedSimpArgs false
theorem b2z (n : Int) : (B2 n).size = 2 := by simp [B2, size_nums]
theorem b4z (n : Int) : (B4 n).size = 4 := by simp [B4, size_nums]
theorem n2_rng (s : ByteArray) (p : Int) : 0 ≤ N2 s p ∧ N2 s p < 65536 := by
  have := bt_nn s p; have := bt_lt s p; have := bt_nn s (p + 1); have := bt_lt s (p + 1)
  unfold N2; omega
theorem n4_rng (s : ByteArray) (p : Int) : 0 ≤ N4 s p ∧ N4 s p < 4294967296 := by
  have := bt_nn s p; have := bt_lt s p; have := bt_nn s (p + 1); have := bt_lt s (p + 1)
  have := bt_nn s (p + 2); have := bt_lt s (p + 2); have := bt_nn s (p + 3); have := bt_lt s (p + 3)
  unfold N4; omega
theorem bt_b2 {n : Int} (h : 0 ≤ n ∧ n < 65536) : bt (B2 n) 0 = n / 256 ∧ bt (B2 n) 1 = n % 256 := by
  have hr : ∀ x ∈ [n / 256 % 256, n % 256], 0 ≤ x ∧ x < 256 := by intro x hx; simp at hx; omega
  have a := bt_nums _ hr 0
  have b := bt_nums _ hr 1
  simp at a b
  unfold B2
  constructor
  · rw [a]; omega
  · rw [b]
theorem bt_b4 {n : Int} (h : 0 ≤ n ∧ n < 4294967296) : bt (B4 n) 0 = n / 16777216 ∧ bt (B4 n) 1 = n / 65536 % 256 ∧ bt (B4 n) 2 = n / 256 % 256 ∧ bt (B4 n) 3 = n % 256 := by
  have hr : ∀ x ∈ [n / 256 / 256 / 256 % 256, n / 256 / 256 % 256, n / 256 % 256, n % 256], 0 ≤ x ∧ x < 256 := by intro x hx; simp at hx; omega
  have a := bt_nums _ hr 0
  have b := bt_nums _ hr 1
  have c := bt_nums _ hr 2
  have d := bt_nums _ hr 3
  simp at a b c d
  unfold B4
  refine ⟨?_, ?_, c, d⟩
  · rw [a]; omega
  · rw [b]; omega
theorem b2_n2 (s : ByteArray) (p : Nat) (h : p + 2 ≤ s.size) : B2 (N2 s p) = s.extract p (p + 2) := by
  have hr := n2_rng s p
  have := bt_nn s p; have := bt_lt s p; have := bt_nn s (p + 1); have := bt_lt s (p + 1)
  apply ext_bt
  · rw [b2z, size_ext (by omega) h]; omega
  · intro i hi
    rw [b2z] at hi
    rw [bt_extract (by omega) (by omega) h]
    have hb := bt_b2 hr
    have : i = 0 ∨ i = 1 := by omega
    rcases this with rfl | rfl
    · rw [show ((0 : Nat) : Int) = 0 from rfl, hb.1, Int.add_zero]; unfold N2; omega
    · rw [show ((1 : Nat) : Int) = 1 from rfl, hb.2]; unfold N2; omega
theorem b4_n4 (s : ByteArray) (p : Nat) (h : p + 4 ≤ s.size) : B4 (N4 s p) = s.extract p (p + 4) := by
  have hr := n4_rng s p
  have := bt_nn s p; have := bt_lt s p; have := bt_nn s (p + 1); have := bt_lt s (p + 1)
  have := bt_nn s (p + 2); have := bt_lt s (p + 2); have := bt_nn s (p + 3); have := bt_lt s (p + 3)
  apply ext_bt
  · rw [b4z, size_ext (by omega) h]; omega
  · intro i hi
    rw [b4z] at hi
    rw [bt_extract (by omega) (by omega) h]
    have hb := bt_b4 hr
    have : i = 0 ∨ i = 1 ∨ i = 2 ∨ i = 3 := by omega
    rcases this with rfl | rfl | rfl | rfl
    · rw [show ((0 : Nat) : Int) = 0 from rfl, hb.1, Int.add_zero]; unfold N4; omega
    · rw [show ((1 : Nat) : Int) = 1 from rfl, hb.2.1]; unfold N4; omega
    · rw [show ((2 : Nat) : Int) = 2 from rfl, hb.2.2.1]; unfold N4; omega
    · rw [show ((3 : Nat) : Int) = 3 from rfl, hb.2.2.2]; unfold N4; omega
/-- Pieces put together. -/
theorem ext_join (s : ByteArray) (a b c : Nat) (h1 : a ≤ b) (h2 : b ≤ c) (h3 : c ≤ s.size) : s.extract a b ++ s.extract b c = s.extract a c := by
  apply ext_bt
  · rw [size_append, size_ext h1 (by omega), size_ext h2 h3, size_ext (by omega) h3]; omega
  · intro i hi
    rw [size_append, size_ext h1 (by omega), size_ext h2 h3] at hi
    rw [bt_append, size_ext h1 (by omega)]
    split
    · rw [bt_extract (by omega) (by omega) (by omega), bt_extract (by omega) (by omega) (by omega)]
    · rw [bt_extract (by omega) (by omega) (by omega), bt_extract (by omega) (by omega) (by omega)]
      congr 1
      omega
theorem ext_all (s : ByteArray) : s.extract 0 s.size = s := by
  apply ext_bt
  · rw [size_ext (by omega) (by omega)]; omega
  · intro i hi
    rw [size_ext (by omega) (by omega)] at hi
    rw [bt_extract (by omega) (by omega) (by omega)]
    congr 1
    omega
theorem cut_left (a b : ByteArray) : (a ++ b).extract 0 a.size = a := by
  apply ext_bt
  · rw [size_ext (by omega) (by rw [size_append]; omega)]; omega
  · intro i hi
    rw [size_ext (by omega) (by rw [size_append]; omega)] at hi
    rw [bt_extract (by omega) (by omega) (by rw [size_append]; omega), show (((0 : Nat) : Int) + (i : Int)) = ((i : Nat) : Int) by omega, bt_append, if_pos (by omega)]
theorem cut_right (a b : ByteArray) (p q : Nat) (h1 : a.size ≤ p) (h2 : p ≤ q) (h3 : q ≤ (a ++ b).size) : (a ++ b).extract p q = b.extract (p - a.size) (q - a.size) := by
  rw [size_append] at h3
  apply ext_bt
  · rw [size_ext h2 (by rw [size_append]; omega), size_ext (by omega) (by omega)]; omega
  · intro i hi
    rw [size_ext h2 (by rw [size_append]; omega)] at hi
    rw [bt_extract (by omega) (by omega) (by rw [size_append]; omega), bt_extract (by omega) (by omega) (by omega), show ((p : Int) + (i : Int)) = ((p + i : Nat) : Int) by omega, bt_append, if_neg (by omega)]
    congr 1
    omega
theorem cut_in (a b : ByteArray) (p q : Nat) (h2 : p ≤ q) (h3 : q ≤ a.size) : (a ++ b).extract p q = a.extract p q := by
  apply ext_bt
  · rw [size_ext h2 (by rw [size_append]; omega), size_ext (by omega) (by omega)]
  · intro i hi
    rw [size_ext h2 (by rw [size_append]; omega)] at hi
    rw [bt_extract (by omega) (by omega) (by rw [size_append]; omega), bt_extract (by omega) (by omega) (by omega), show ((p : Int) + (i : Int)) = ((p + i : Nat) : Int) by omega, bt_append, if_pos (by omega)]
theorem n2_of {s : ByteArray} {p : Nat} {n : Int} (h : 0 ≤ n ∧ n < 65536) (hs : p + 2 ≤ s.size) (e : s.extract p (p + 2) = B2 n) : N2 s p = n := by
  have a := bt_extract (s := s) (a := p) (b := p + 2) (i := 0) (by omega) (by omega) hs
  have b := bt_extract (s := s) (a := p) (b := p + 2) (i := 1) (by omega) (by omega) hs
  rw [e, (bt_b2 h).1, Int.add_zero] at a
  rw [e, (bt_b2 h).2] at b
  unfold N2
  rw [← a, ← b]; omega
theorem n4_of {s : ByteArray} {p : Nat} {n : Int} (h : 0 ≤ n ∧ n < 4294967296) (hs : p + 4 ≤ s.size) (e : s.extract p (p + 4) = B4 n) : N4 s p = n := by
  have a := bt_extract (s := s) (a := p) (b := p + 4) (i := 0) (by omega) (by omega) hs
  have b := bt_extract (s := s) (a := p) (b := p + 4) (i := 1) (by omega) (by omega) hs
  have c := bt_extract (s := s) (a := p) (b := p + 4) (i := 2) (by omega) (by omega) hs
  have d := bt_extract (s := s) (a := p) (b := p + 4) (i := 3) (by omega) (by omega) hs
  rw [e, (bt_b4 h).1, Int.add_zero] at a
  rw [e, (bt_b4 h).2.1] at b
  rw [e, (bt_b4 h).2.2.1] at c
  rw [e, (bt_b4 h).2.2.2] at d
  unfold N4
  rw [← a, ← b, ← c, ← d]; omega
end Go.Proofs.Ytjgnpggpgkkknaa.Pure
