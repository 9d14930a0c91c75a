/- Entries of RIP: what the program and the document make of bytes, and of an entry. -/
import Derived.Test.YtjgnpggpgkkknaaPr10
import Derived.Test.YtjgnpggpgkkknaaPr5
import Derived.Test.YtjgnpggpgkkknaaPr8
import Derived.Test.YtjgnpggpgkkknaaPr9
import Derived.Test.YtjgnpggpgkkknaaPuBase
import Derived.Test.YtjgnpggpgkkknaaPuOctet
namespace Go.Proofs.Ytjgnpggpgkkknaa.Pure
open Go.RowKit Go.Proofs.Ytjgnpggpgkkknaa.Pr Go.Proofs.YtjgnpggpgkkknaaW.PrintWords Go.Proofs.YtjgnpggpgkkknaaW.PrintLast Go.Proofs.YtjgnpggpgkkknaaW.PrintMore
set_option linter.unusedVariables false
set_option linter.unusedSimpArgs false
def EGet (s : ByteArray) : Int × Int × ByteArray × ByteArray × ByteArray × Int × Bool :=
  if s.size = 20 then (N2 s 0, N2 s 2, s.extract 4 8, s.extract 8 12, s.extract 12 16, N4 s 16, true) else (0, 0, ⟨#[]⟩, ⟨#[]⟩, ⟨#[]⟩, 0, false)
def EOk (f t : Int) (a m x : ByteArray) (c : Int) : Prop := a.size = 4 ∧ m.size = 4 ∧ x.size = 4 ∧ (0 ≤ c ∧ c < 4294967296) ∧ (0 ≤ f ∧ f < 65536) ∧ (0 ≤ t ∧ t < 65536)
instance (f t : Int) (a m x : ByteArray) (c : Int) : Decidable (EOk f t a m x c) := by unfold EOk; infer_instance
def EPut (f t : Int) (a m x : ByteArray) (c : Int) : ByteArray × Bool :=
  if EOk f t a m x c then (((((B2 f ++ B2 t) ++ a) ++ m) ++ x) ++ B4 c, true) else (⟨#[]⟩, false)
theorem e_num2 {s : ByteArray} {p : Int} {k : Nat} (hs : s.size = 20) (h0 : 0 ≤ p) (h : p + 2 ≤ 20) (hk : 10 ≤ k) : entry_reader_num.f k s p 20 false 2 = some (N2 s p, s, p + 2, 20, false) := by
  unfold entry_reader_num.f
  rw [num_is ⟨h0, by omega, by omega, by omega⟩ hk]
  unfold NumR
  rw [if_pos ⟨rfl, by omega, by omega, by omega⟩, num2 h0 (by omega)]
  rfl
theorem e_num4 {s : ByteArray} {p : Int} {k : Nat} (hs : s.size = 20) (h0 : 0 ≤ p) (h : p + 4 ≤ 20) (hk : 10 ≤ k) : entry_reader_num.f k s p 20 false 4 = some (N4 s p, s, p + 4, 20, false) := by
  unfold entry_reader_num.f
  rw [num_is ⟨h0, by omega, by omega, by omega⟩ hk]
  unfold NumR
  rw [if_pos ⟨rfl, by omega, by omega, by omega⟩, num4 h0 (by omega)]
  rfl
theorem e_four {s : ByteArray} {p : Int} (hs : s.size = 20) (h0 : 0 ≤ p) (h : p + 4 ≤ 20) : entry_reader_four.f s p 20 false = some (s.extract p.toNat (p + 4).toNat, s, p + 4, 20, false) := by
  unfold entry_reader_four.f
  rw [text_is ⟨h0, by omega, by omega, by omega⟩]
  unfold TextR
  rw [if_pos ⟨rfl, by omega, by omega⟩]
  rfl
theorem get_is {s : ByteArray} {k : Nat} (hk : 10 ≤ k) : entry_Get.f k s = some (EGet s) := by
  unfold entry_Get.f EGet cursor_New.f
  by_cases h : s.size = 20
  · have h20 : (s.size : Int) = 20 := by omega
    rw [if_pos h20, if_pos h, h20]
    simp only [Option.bind_some]
    rw [e_num2 h (by decide) (by decide) hk]
    simp only [Option.bind_some]
    rw [e_num2 h (by decide) (by decide) hk]
    simp only [Option.bind_some]
    rw [e_four h (by decide) (by decide)]
    simp only [Option.bind_some]
    rw [e_four h (by decide) (by decide)]
    simp only [Option.bind_some]
    rw [e_four h (by decide) (by decide)]
    simp only [Option.bind_some]
    rw [e_num4 h (by decide) (by decide) hk]
    rfl
  · rw [if_neg (by omega), if_neg h]
theorem rnum_go {s : ByteArray} {acc i : Int} {k : Nat} (h0 : 0 ≤ acc ∧ acc < 1099511627776) (hi : 0 ≤ i) (h : i < s.size) (h7 : i < 7) : roadbookref08_Number.l0 (k + 1) s acc i = roadbookref08_Number.l0 k s (acc * 256 + bt s i) (i + 1) := by
  have := bt_nn s i
  have := bt_lt s i
  rw [roadbookref08_Number.l0, if_pos h, if_pos h7, if_pos hi, w64 (x := acc * 256) (by omega) (by omega), w64 (x := bt s i) (by omega) (by omega), w64 (by omega) (by omega), w64 (by omega) (by omega)]
theorem rnum_end {s : ByteArray} {acc i : Int} {k : Nat} (h : ¬ i < s.size) : roadbookref08_Number.l0 (k + 1) s acc i = some acc := by
  rw [roadbookref08_Number.l0, if_neg h]
theorem rnum2 {s : ByteArray} {p : Nat} {k : Nat} (h : p + 2 ≤ s.size) (hk : 10 ≤ k) : roadbookref08_Number.f k (s.extract p (p + 2)) = some (N2 s p) := by
  obtain ⟨k, rfl⟩ : ∃ m, k = m + 10 := ⟨k - 10, by omega⟩
  have hs : (s.extract p (p + 2)).size = 2 := by rw [size_ext (by omega) (by omega)]; omega
  have b0 := bt_extract (s := s) (a := p) (b := p + 2) (i := 0) (by omega) (by omega) (by omega)
  have b1 := bt_extract (s := s) (a := p) (b := p + 2) (i := 1) (by omega) (by omega) (by omega)
  have := bt_nn s p
  have := bt_lt s p
  unfold roadbookref08_Number.f
  rw [rnum_go (by omega) (by omega) (by omega) (by omega), b0, rnum_go (by simp; omega) (by omega) (by omega) (by omega), rnum_end (by omega)]
  simp [N2, b1]
theorem rnum4 {s : ByteArray} {p : Nat} {k : Nat} (h : p + 4 ≤ s.size) (hk : 10 ≤ k) : roadbookref08_Number.f k (s.extract p (p + 4)) = some (N4 s p) := by
  obtain ⟨k, rfl⟩ : ∃ m, k = m + 10 := ⟨k - 10, by omega⟩
  have hs : (s.extract p (p + 4)).size = 4 := by rw [size_ext (by omega) (by omega)]; omega
  have b0 := bt_extract (s := s) (a := p) (b := p + 4) (i := 0) (by omega) (by omega) (by omega)
  have b1 := bt_extract (s := s) (a := p) (b := p + 4) (i := 1) (by omega) (by omega) (by omega)
  have b2 := bt_extract (s := s) (a := p) (b := p + 4) (i := 2) (by omega) (by omega) (by omega)
  have b3 := bt_extract (s := s) (a := p) (b := p + 4) (i := 3) (by omega) (by omega) (by omega)
  have := bt_nn s p
  have := bt_lt s p
  have := bt_nn s (p + 1)
  have := bt_lt s (p + 1)
  have := bt_nn s (p + 2)
  have := bt_lt s (p + 2)
  unfold roadbookref08_Number.f
  rw [rnum_go (by omega) (by omega) (by omega) (by omega), b0, rnum_go (by simp; omega) (by omega) (by omega) (by omega), rnum_go (by simp; omega) (by omega) (by omega) (by omega), rnum_go (by simp; omega) (by omega) (by omega) (by omega), rnum_end (by omega)]
  simp [N4, b1, b2, b3]
theorem rget_is {s : ByteArray} {k : Nat} (hk : 10 ≤ k) : roadbookref08_Get.f k s = some (EGet s) := by
  unfold roadbookref08_Get.f EGet
  by_cases h : s.size = 20
  · have h20 : (s.size : Int) = 20 := by omega
    rw [if_pos h20, if_pos h, h20, h]
    have e0 := rnum2 (s := s) (p := 0) (k := k) (by omega) hk
    have e2 := rnum2 (s := s) (p := 2) (k := k) (by omega) hk
    have e4 := rnum4 (s := s) (p := 16) (k := k) (by omega) hk
    simp only [Nat.zero_add, Nat.reduceAdd] at e0 e2 e4
    simp [e0, e2, e4]
  · rw [if_neg (by omega), if_neg h]
theorem b2_size (n : Int) : (B2 n).size = 2 := by simp [B2, size_nums]
theorem b4_size (n : Int) : (B4 n).size = 4 := by simp [B4, size_nums]
theorem put_is {f t : Int} {a m x : ByteArray} {c : Int} {k : Nat} (hf : -9223372036854775808 ≤ f ∧ f ≤ 9223372036854775807) (ht : -9223372036854775808 ≤ t ∧ t ≤ 9223372036854775807) (hc : -9223372036854775808 ≤ c ∧ c ≤ 9223372036854775807) (hk : 20 ≤ k) :
    entry_Put.f k f t a m x c = some (EPut f t a m x c) := by
  obtain ⟨k, rfl⟩ : ∃ m, k = m + 11 := ⟨k - 11, by omega⟩
  have no : ∀ b, ¬ EOk f t a m x c → b = true → entry_Put.j0 (k + 11) b f t a m x c = some (EPut f t a m x c) := fun b h hb => by
    rw [entry_Put.j0, if_pos hb, EPut, if_neg h]
  unfold entry_Put.f
  by_cases h1 : a.size = 4
  · rw [if_pos (by omega)]
    by_cases h2 : m.size = 4
    · rw [if_pos (by omega)]
      by_cases h3 : x.size = 4
      · rw [if_pos (by omega), fits_is hc (by omega) (by omega)]
        simp only [Option.bind_some]
        by_cases h4 : 0 ≤ c ∧ c < 4294967296
        · rw [if_pos (by simpa using h4), fits_is hf (by omega) (by omega)]
          simp only [Option.bind_some]
          by_cases h5 : 0 ≤ f ∧ f < 65536
          · rw [if_pos (by simpa using h5), fits_is ht (by omega) (by omega)]
            simp only [Option.bind_some]
            by_cases h6 : 0 ≤ t ∧ t < 65536
            · rw [entry_Put.j0, if_neg (by simpa using h6), put2_is hf (by omega), put2_is ht (by omega), put4_is hc (by omega), if_pos h4, if_pos h5, if_pos h6, EPut, if_pos ⟨h1, h2, h3, h4, h5, h6⟩]
              simp only [Option.bind_some, size_append, b2_size, b4_size, h1, h2, h3]
              rw [if_pos (by decide), if_pos (by decide), if_pos (by decide), if_pos (by decide), if_pos (by decide)]
            · exact no _ (fun h => h6 h.2.2.2.2.2) (by simp; omega)
          · rw [if_neg (by simpa using h5)]
            exact no _ (fun h => h5 h.2.2.2.2.1) rfl
        · rw [if_neg (by simpa using h4)]
          exact no _ (fun h => h4 h.2.2.2.1) rfl
      · rw [if_neg (by omega)]
        exact no _ (fun h => h3 h.2.2.1) rfl
    · rw [if_neg (by omega)]
      exact no _ (fun h => h2 h.2.1) rfl
  · rw [if_neg (by omega)]
    exact no _ (fun h => h1 h.1) rfl
theorem rput_is {f t : Int} {a m x : ByteArray} {c : Int} {k : Nat} (hf : -9223372036854775808 ≤ f ∧ f ≤ 9223372036854775807) (ht : -9223372036854775808 ≤ t ∧ t ≤ 9223372036854775807) (hc : -9223372036854775808 ≤ c ∧ c ≤ 9223372036854775807) (hk : 20 ≤ k) :
    roadbookref08_Put.f k f t a m x c = some (EPut f t a m x c) := by
  unfold roadbookref08_Put.f
  rw [rput2_is hf (by omega), rput2_is ht (by omega), rput4_is hc (by omega)]
  simp only [Option.bind_some]
  by_cases h5 : 0 ≤ f ∧ f < 65536
  · rw [if_pos h5]
    by_cases h6 : 0 ≤ t ∧ t < 65536
    · rw [if_pos h6]
      by_cases h4 : 0 ≤ c ∧ c < 4294967296
      · rw [if_pos h4]
        simp only [if_true]
        by_cases h1 : a.size = 4
        · rw [if_pos (by omega)]
          by_cases h2 : m.size = 4
          · rw [if_pos (by omega)]
            by_cases h3 : x.size = 4
            · rw [if_pos (by omega), EPut, if_pos (show EOk f t a m x c from ⟨h1, h2, h3, h4, h5, h6⟩)]
              simp [size_append, b2_size, b4_size, h1, h2, h3]
            · rw [if_neg (by omega), EPut, if_neg (fun h : EOk f t a m x c => h3 h.2.2.1)]
          · rw [if_neg (by omega), EPut, if_neg (fun h : EOk f t a m x c => h2 h.2.1)]
        · rw [if_neg (by omega), EPut, if_neg (fun h : EOk f t a m x c => h1 h.1)]
      · rw [if_neg h4, EPut, if_neg (fun h : EOk f t a m x c => h4 h.2.2.2.1)]
        simp
    · rw [if_neg h6, EPut, if_neg (fun h : EOk f t a m x c => h6 h.2.2.2.2.2)]
      simp
  · rw [if_neg h5, EPut, if_neg (fun h : EOk f t a m x c => h5 h.2.2.2.2.1)]
    simp
end Go.Proofs.Ytjgnpggpgkkknaa.Pure
