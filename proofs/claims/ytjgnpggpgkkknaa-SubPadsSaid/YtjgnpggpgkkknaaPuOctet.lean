/- Numbers as bytes, of two and of four: the program's and the document's. -/
import Derived.Test.YtjgnpggpgkkknaaPr5
import Derived.Test.YtjgnpggpgkkknaaPr9
import Derived.Test.YtjgnpggpgkkknaaPuBase
namespace Go.Proofs.Ytjgnpggpgkkknaa.Pure
open Go.RowKit Go.Proofs.Ytjgnpggpgkkknaa.Pr Go.Proofs.YtjgnpggpgkkknaaW.PrintWords Go.Proofs.YtjgnpggpgkkknaaW.PrintLast Go.Proofs.YtjgnpggpgkkknaaW.PrintMore
set_option linter.unusedVariables false
set_option linter.unusedSimpArgs false
def B1 (n : Int) : ByteArray := strOfNums [n % 256]
def B2 (n : Int) : ByteArray := strOfNums [n / 256 % 256, n % 256]
def B4 (n : Int) : ByteArray := strOfNums [n / 256 / 256 / 256 % 256, n / 256 / 256 % 256, n / 256 % 256, n % 256]
theorem fits_is {n : Int} {m : Int} (hn : -9223372036854775808 ≤ n ∧ n ≤ 9223372036854775807) (h1 : 1 ≤ m) (h7 : m ≤ 7) : octet_Fits.f n m = some (decide (0 ≤ n ∧ n < 2 ^ (8 * m).toNat)) := by
  unfold octet_Fits.f
  rw [if_pos (by omega), if_pos (by omega)]
  have hw : IntKind.u64.wrap (wrap64 (8 * m)) = 8 * m := by
    rw [w64 (by omega) (by omega)]
    simp only [IntKind.wrap, IntKind.bits, IntKind.signed]
    simp
    omega
  rw [hw]
  by_cases h0 : n ≥ 0
  · rw [if_pos h0, if_pos (by omega)]
    have hm : min (8 * m).toNat IntKind.i64.bits = (8 * m).toNat := by simp only [IntKind.bits]; omega
    have hp : (0 : Int) < 2 ^ (8 * m).toNat := Int.pow_pos (by decide)
    simp only [shr, hm, Option.some.injEq]
    by_cases hlt : n < 2 ^ (8 * m).toNat
    · rw [Int.ediv_eq_zero_of_lt h0 hlt]
      simp [hlt, h0]
    · have : 1 ≤ n / 2 ^ (8 * m).toNat := Int.le_ediv_of_mul_le hp (by omega)
      have h2 : ¬ (n / 2 ^ (8 * m).toNat = 0) := by omega
      simp [hlt, h2]
  · rw [if_neg h0]
    have : ¬ (0 ≤ n) := by omega
    simp [this]
theorem put_go {n i : Int} {l : List Int} {k : Nat} (h0 : 0 ≤ i) (h : i < l.length) (hl : l.length ≤ 100) : octet_Put.l0 (k + 1) n l i = octet_Put.l0 k (n / 256) (l.set i.toNat (n % 256)) (i - 1) := by
  rw [octet_Put.l0, if_pos h0, if_pos h0, if_pos h, w64 (by omega) (by omega)]
theorem put_end {n i : Int} {l : List Int} {k : Nat} (h : i < 0) : octet_Put.l0 (k + 1) n l i = some (strOfNums l, true) := by
  rw [octet_Put.l0, if_neg (by omega)]
theorem put2_is {n : Int} (hn : -9223372036854775808 ≤ n ∧ n ≤ 9223372036854775807) {k : Nat} (hk : 10 ≤ k) : octet_Put.f k n 2 = some (if 0 ≤ n ∧ n < 65536 then (B2 n, true) else (⟨#[]⟩, false)) := by
  obtain ⟨k, rfl⟩ : ∃ m, k = m + 10 := ⟨k - 10, by omega⟩
  unfold octet_Put.f
  rw [fits_is hn (by omega) (by omega)]
  simp only [Option.bind_some]
  by_cases h : 0 ≤ n ∧ n < 65536
  · rw [if_pos (by simpa using h), if_pos h, if_pos (by decide), if_pos (by decide), w64 (by decide) (by decide), put_go (by decide) (by simp) (by simp), put_go (by decide) (by simp) (by simp), put_end (by decide)]
    rfl
  · rw [if_neg (by simpa using h), if_neg h]
theorem put4_is {n : Int} (hn : -9223372036854775808 ≤ n ∧ n ≤ 9223372036854775807) {k : Nat} (hk : 10 ≤ k) : octet_Put.f k n 4 = some (if 0 ≤ n ∧ n < 4294967296 then (B4 n, true) else (⟨#[]⟩, false)) := by
  obtain ⟨k, rfl⟩ : ∃ m, k = m + 10 := ⟨k - 10, by omega⟩
  unfold octet_Put.f
  rw [fits_is hn (by omega) (by omega)]
  simp only [Option.bind_some]
  by_cases h : 0 ≤ n ∧ n < 4294967296
  · rw [if_pos (by simpa using h), if_pos h, if_pos (by decide), if_pos (by decide), w64 (by decide) (by decide), put_go (by decide) (by simp) (by simp), put_go (by decide) (by simp) (by simp), put_go (by decide) (by simp) (by simp), put_go (by decide) (by simp) (by simp), put_end (by decide)]
    rfl
  · rw [if_neg (by simpa using h), if_neg h]
theorem rfits_go {n m c i : Int} {k : Nat} (h : i < m) (hc : 0 ≤ c ∧ c ≤ 4294967296) (hi : 0 ≤ i) (hm : m ≤ 7) : roadbookref02_Fits.l0 (k + 1) n m c i = roadbookref02_Fits.l0 k n m (c * 256) (i + 1) := by
  rw [roadbookref02_Fits.l0, if_pos h, w64 (by omega) (by omega), w64 (by omega) (by omega)]
theorem rfits_end {n m c i : Int} {k : Nat} (h : ¬ i < m) : roadbookref02_Fits.l0 (k + 1) n m c i = some (decide (n < c)) := by rw [roadbookref02_Fits.l0, if_neg h]
theorem rfits_is {n m : Int} {k : Nat} (hn : -9223372036854775808 ≤ n ∧ n ≤ 9223372036854775807) (hm : m = 1 ∨ m = 2 ∨ m = 4) (hk : 10 ≤ k) : roadbookref02_Fits.f k n m = some (decide (0 ≤ n ∧ n < 2 ^ (8 * m).toNat)) := by
  obtain ⟨k, rfl⟩ : ∃ m, k = m + 10 := ⟨k - 10, by omega⟩
  unfold roadbookref02_Fits.f
  by_cases h0 : n < 0
  · rcases hm with rfl | rfl | rfl
    all_goals
      rw [if_neg (by omega), if_neg (by omega), roadbookref02_Fits.j0, if_pos (by simpa using h0)]
      simp
      omega
  · rcases hm with rfl | rfl | rfl
    · rw [if_neg (by omega), if_neg (by omega), roadbookref02_Fits.j0, if_neg (by simpa using h0)]
      rw [rfits_go (by omega) (by omega) (by omega) (by omega), rfits_end (by omega)]
      simp
      omega
    · rw [if_neg (by omega), if_neg (by omega), roadbookref02_Fits.j0, if_neg (by simpa using h0)]
      rw [rfits_go (by omega) (by omega) (by omega) (by omega), rfits_go (by omega) (by omega) (by omega) (by omega), rfits_end (by omega)]
      simp
      omega
    · rw [if_neg (by omega), if_neg (by omega), roadbookref02_Fits.j0, if_neg (by simpa using h0)]
      rw [rfits_go (by omega) (by omega) (by omega) (by omega), rfits_go (by omega) (by omega) (by omega) (by omega), rfits_go (by omega) (by omega) (by omega) (by omega), rfits_go (by omega) (by omega) (by omega) (by omega), rfits_end (by omega)]
      simp
      omega
theorem rput_go {n m i : Int} {s : ByteArray} {k : Nat} (h0 : 0 ≤ n) (hn : n ≤ 9223372036854775807) (hi : 0 ≤ i) (hm : m ≤ 7) (hs : s.size ≤ 100) (h : i < m) : roadbookref02_Put.l0 (k + 1) n m s i = roadbookref02_Put.l0 k (n / 256) m (strOfNums [n % 256] ++ s) (i + 1) := by
  have e1 : Int.tmod n 256 = n % 256 := Int.tmod_eq_emod_of_nonneg h0
  have e2 : Int.tdiv n 256 = n / 256 := Int.tdiv_eq_ediv_of_nonneg h0
  rw [roadbookref02_Put.l0, if_pos h, e1, e2, w64 (by omega) (by omega), w64 (by omega) (by omega)]
  simp only [Option.bind_some]
  rw [if_pos (by rw [size_nums]; simp; omega), Int.emod_emod_of_dvd n (by decide : (256 : Int) ∣ 256)]
theorem rput_end {n m i : Int} {s : ByteArray} {k : Nat} (h : ¬ i < m) : roadbookref02_Put.l0 (k + 1) n m s i = some (s, true) := by
  rw [roadbookref02_Put.l0, if_neg h]
theorem rput1_is {n : Int} (hn : -9223372036854775808 ≤ n ∧ n ≤ 9223372036854775807) {k : Nat} (hk : 10 ≤ k) : roadbookref02_Put.f k n 1 = some (if 0 ≤ n ∧ n < 256 then (B1 n, true) else (⟨#[]⟩, false)) := by
  unfold roadbookref02_Put.f
  rw [rfits_is hn (by omega) hk]
  obtain ⟨k, rfl⟩ : ∃ m, k = m + 10 := ⟨k - 10, by omega⟩
  simp only [Option.bind_some]
  by_cases h : 0 ≤ n ∧ n < 256
  · rw [if_pos (by simpa using h), if_pos h]
    rw [rput_go (by omega) (by omega) (by omega) (by omega) (by decide) (by omega), rput_end (by omega), append_empty]
    rfl
  · rw [if_neg (by simpa using h), if_neg h]
theorem rput2_is {n : Int} (hn : -9223372036854775808 ≤ n ∧ n ≤ 9223372036854775807) {k : Nat} (hk : 10 ≤ k) : roadbookref02_Put.f k n 2 = some (if 0 ≤ n ∧ n < 65536 then (B2 n, true) else (⟨#[]⟩, false)) := by
  unfold roadbookref02_Put.f
  rw [rfits_is hn (by omega) hk]
  obtain ⟨k, rfl⟩ : ∃ m, k = m + 10 := ⟨k - 10, by omega⟩
  simp only [Option.bind_some]
  by_cases h : 0 ≤ n ∧ n < 65536
  · rw [if_pos (by simpa using h), if_pos h]
    rw [rput_go (by omega) (by omega) (by omega) (by omega) (by decide) (by omega), rput_go (by omega) (by omega) (by omega) (by omega) (by simp [size_append, size_nums, empty_size]) (by omega), rput_end (by omega), append_empty, ← nums_append]
    rfl
  · rw [if_neg (by simpa using h), if_neg h]
theorem rput4_is {n : Int} (hn : -9223372036854775808 ≤ n ∧ n ≤ 9223372036854775807) {k : Nat} (hk : 10 ≤ k) : roadbookref02_Put.f k n 4 = some (if 0 ≤ n ∧ n < 4294967296 then (B4 n, true) else (⟨#[]⟩, false)) := by
  unfold roadbookref02_Put.f
  rw [rfits_is hn (by omega) hk]
  obtain ⟨k, rfl⟩ : ∃ m, k = m + 10 := ⟨k - 10, by omega⟩
  simp only [Option.bind_some]
  by_cases h : 0 ≤ n ∧ n < 4294967296
  · rw [if_pos (by simpa using h), if_pos h]
    rw [rput_go (by omega) (by omega) (by omega) (by omega) (by decide) (by omega), rput_go (by omega) (by omega) (by omega) (by omega) (by simp [size_append, size_nums, empty_size]) (by omega), rput_go (by omega) (by omega) (by omega) (by omega) (by simp [size_append, size_nums, empty_size]) (by omega), rput_go (by omega) (by omega) (by omega) (by omega) (by simp [size_append, size_nums, empty_size]) (by omega), rput_end (by omega), append_empty, ← nums_append, ← nums_append, ← nums_append]
    rfl
  · rw [if_neg (by simpa using h), if_neg h]
/-- The number of two, four bytes. -/
def N2 (s : ByteArray) (p : Int) : Int := bt s p * 256 + bt s (p + 1)
def N4 (s : ByteArray) (p : Int) : Int := ((bt s p * 256 + bt s (p + 1)) * 256 + bt s (p + 2)) * 256 + bt s (p + 3)
theorem bytesOf_eq {s : ByteArray} {n : Nat} (h : s.size = n) : bytesOf s = (List.range n).map fun i : Nat => bt s i := by
  apply List.ext_getElem
  · simp [bytesOf_length, h]
  · intro i h1 h2
    have e : (bytesOf s)[i] = rd (bytesOf s) i := by simp only [rd, Int.toNat_natCast, List.getD_eq_getElem?_getD, List.getElem?_eq_getElem h1, Option.getD_some]
    rw [e, rd_bytesOf]
    simp
theorem num1 {s : ByteArray} {p : Int} (h0 : 0 ≤ p) (h : p + 1 ≤ s.size) : numB 0 (bytesOf (s.extract p.toNat (p + 1).toNat)) = bt s p := by
  rw [bytesOf_eq (n := 1) (by rw [size_ext (by omega) (by omega)]; omega)]
  have hb : ∀ i : Nat, i < 1 → bt (s.extract p.toNat (p + 1).toNat) i = bt s (p + i) := fun i hi => by
    rw [bt_extract (by omega) (by omega) (by omega)]; congr 1; omega
  simp [List.range_succ, numB, hb 0 (by omega)]
  have := hb 0 (by omega); simpa using this
theorem num2 {s : ByteArray} {p : Int} (h0 : 0 ≤ p) (h : p + 2 ≤ s.size) : numB 0 (bytesOf (s.extract p.toNat (p + 2).toNat)) = N2 s p := by
  rw [bytesOf_eq (n := 2) (by rw [size_ext (by omega) (by omega)]; omega)]
  have hb : ∀ i : Nat, i < 2 → bt (s.extract p.toNat (p + 2).toNat) i = bt s (p + i) := fun i hi => by
    rw [bt_extract (by omega) (by omega) (by omega)]; congr 1; omega
  have h0 := hb 0 (by omega)
  have h1 := hb 1 (by omega)
  simp at h0 h1
  simp [List.range_succ, numB, h0, h1, N2]
theorem num4 {s : ByteArray} {p : Int} (h0 : 0 ≤ p) (h : p + 4 ≤ s.size) : numB 0 (bytesOf (s.extract p.toNat (p + 4).toNat)) = N4 s p := by
  rw [bytesOf_eq (n := 4) (by rw [size_ext (by omega) (by omega)]; omega)]
  have hb : ∀ i : Nat, i < 4 → bt (s.extract p.toNat (p + 4).toNat) i = bt s (p + i) := fun i hi => by
    rw [bt_extract (by omega) (by omega) (by omega)]; congr 1; omega
  have h0 := hb 0 (by omega)
  have h1 := hb 1 (by omega)
  have h2 := hb 2 (by omega)
  have h3 := hb 3 (by omega)
  simp at h0 h1 h2 h3
  simp [List.range_succ, numB, h0, h1, h2, h3, N4]
end Go.Proofs.Ytjgnpggpgkkknaa.Pure
