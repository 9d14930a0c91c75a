/- The document's Read and Text are the program's. -/
import Derived.Test.YtblajikhleocpaaDoorFQ0
import Derived.Test.YtblajikhleocpaaDoorPBase
import Derived.Test.YtblajikhleocpaaDoorPCur
import Derived.Test.YtblajikhleocpaaDoorPOct
import Derived.Test.YtblajikhleocpaaDoorPAddr
import Derived.Test.YtblajikhleocpaaDoorPNumR
import Derived.Test.YtblajikhleocpaaDoorPReadA
import Derived.Test.YtblajikhleocpaaDoorPTextR
import Derived.Test.YtblajikhleocpaaDoorPReadB
import Derived.Test.YtblajikhleocpaaDoorXM
import Derived.Test.YtblajikhleocpaaDoorFH
import Derived.Test.YtblajikhleocpaaDoorX2
set_option linter.unusedVariables false
set_option linter.unusedSimpArgs false
set_option maxRecDepth 100000
namespace Go.VP
open Go Go.VI
theorem rparts_is {s : Bs} (h : s.length ≤ 1000000) (c : Int) : g_ref06_parts (s, c, ()) = some ((splitC c.toNat.toUInt8 s, ()), ()) := by
  show x_ref06_parts _ = _
  unfold x_ref06_parts
  exact if_pos h
theorem u8m (v : Nat) : UInt8.ofNat (v % 256) = UInt8.ofNat v := by
  apply UInt8.toNat.inj
  simp
theorem rread_loop0 {n : Nat} {r : ((List Bs) × Unit) × Unit} (h4 : r.1.1.length = 4) (hl : ∀ p ∈ r.1.1, p.length ≤ 1000000) :
    ∀ (d i m : Nat) (acc : Bs), i + d = 4 → d < m → acc.length ≤ 2 * i →
    L_ref06_Read_0 n m r acc i = some (pairB (rdG 10 256 false (r.1.1.drop i) acc))
  | 0, i, m, acc, h, hm, ha => by
    obtain ⟨m, rfl⟩ : ∃ k, m = k + 1 := ⟨m - 1, by omega⟩
    rw [L_ref06_Read_0_eq, ifn (by omega), List.drop_of_length_le (by omega)]
    rfl
  | d + 1, i, m, acc, h, hm, ha => by
    obtain ⟨m, rfl⟩ : ∃ k, m = k + 1 := ⟨m - 1, by omega⟩
    have hi : i < r.1.1.length := by omega
    have hv0 := rvalue_is (b := 10) (top := 256) (s := r.1.1[i]) (by decide) (by decide) (by decide) (by decide) (by decide) (hl _ (List.getElem_mem hi))
    rw [show ((10 : Nat) : Int) = 10 from rfl, show ((256 : Nat) : Int) = 256 from rfl] at hv0
    rw [L_ref06_Read_0_eq, ifd (by omega), if_pos (by omega), Int.toNat_natCast, bind_at hi, hv0, Option.bind_some, List.drop_eq_getElem_cons hi, rdG]
    cases hv : valM 10 256 r.1.1[i] with
    | none => rfl
    | some v =>
      have go := rread_loop0 (n := n) h4 hl d (i + 1) m (acc ++ bytesN false v) (by omega) (by omega) (by simp [bytesN] <;> omega)
      rw [show ((i + 1 : Nat) : Int) = (i : Int) + 1 by omega] at go
      unfold intN
      dsimp only
      rw [ifn (by omega), u8w, if_pos (maxB_of (by simp; omega)), w64 (x := (i : Int) + 1) (by omega) (by omega)]
      exact go
theorem rread_loop1 {n : Nat} {r : ((List Bs) × Unit) × Unit} (h4 : r.1.1.length = 8) (hl : ∀ p ∈ r.1.1, p.length ≤ 1000000) :
    ∀ (d i m : Nat) (acc : Bs), i + d = 8 → d < m → acc.length ≤ 2 * i →
    L_ref06_Read_1 n m r acc i = some (pairB (rdG 16 65536 true (r.1.1.drop i) acc))
  | 0, i, m, acc, h, hm, ha => by
    obtain ⟨m, rfl⟩ : ∃ k, m = k + 1 := ⟨m - 1, by omega⟩
    rw [L_ref06_Read_1_eq, ifn (by omega), List.drop_of_length_le (by omega)]
    rfl
  | d + 1, i, m, acc, h, hm, ha => by
    obtain ⟨m, rfl⟩ : ∃ k, m = k + 1 := ⟨m - 1, by omega⟩
    have hi : i < r.1.1.length := by omega
    have hv0 := rvalue_is (b := 16) (top := 65536) (s := r.1.1[i]) (by decide) (by decide) (by decide) (by decide) (by decide) (hl _ (List.getElem_mem hi))
    rw [show ((16 : Nat) : Int) = 16 from rfl, show ((65536 : Nat) : Int) = 65536 from rfl] at hv0
    rw [L_ref06_Read_1_eq, ifd (by omega), if_pos (by omega), Int.toNat_natCast, bind_at hi, hv0, Option.bind_some, List.drop_eq_getElem_cons hi, rdG]
    cases hv : valM 16 65536 r.1.1[i] with
    | none => rfl
    | some v =>
      have hlt := (valM_some hv).1
      have go := rread_loop1 (n := n) h4 hl d (i + 1) m (acc ++ bytesN true v) (by omega) (by omega) (by simp [bytesN] <;> omega)
      rw [show ((i + 1 : Nat) : Int) = (i : Int) + 1 by omega] at go
      have e1 : ((v : Int).tdiv 256) = ((v / 256 : Nat) : Int) := by rw [Int.tdiv_eq_ediv_of_nonneg (by omega)]; simp
      have e2 : ((v : Int).tmod 256) = ((v % 256 : Nat) : Int) := by rw [Int.tmod_eq_emod_of_nonneg (by omega)]; simp
      unfold intN
      dsimp only
      rw [ifn (by omega), e1, e2, w64 (x := ((v / 256 : Nat) : Int)) (by omega) (by omega), u8w, u8w, u8m, if_pos (maxB_of (by simp; omega)), w64 (x := (i : Int) + 1) (by omega) (by omega)]
      exact go
theorem r6read_is {s : Bs} (h : s.length ≤ 1000000) : g_ref06_Read (s, ()) = some (pairB (readM s)) := by
  show h_ref06_Read fuel _ = _
  rw [h_ref06_Read_eq, rparts_is h, Option.bind_some, rparts_is h, Option.bind_some]
  dsimp only
  rw [show (46 : Int).toNat.toUInt8 = 46 from rfl, show (58 : Int).toNat.toUInt8 = 58 from rfl]
  unfold readM
  by_cases h4 : (splitC 46 s).length = 4
  · rw [if_pos (by rw [beq_iff_eq]; omega), if_pos h4]
    exact rread_loop0 (n := fuel) (r := ((splitC 46 s, ()), ())) h4 (fun p hp => Nat.le_trans (splitC_small 46 s p hp) h) 4 0 fuel [] (by omega) (fuel_ge (by decide)) (by simp)
  · rw [if_neg (by rw [beq_iff_eq]; omega), if_neg h4]
    by_cases h8 : (splitC 58 s).length = 8
    · rw [if_pos h8, if_neg (by simp [h8])]
      exact rread_loop1 (n := fuel) (r := ((splitC 58 s, ()), ())) h8 (fun p hp => Nat.le_trans (splitC_small 58 s p hp) h) 8 0 fuel [] (by omega) (fuel_ge (by decide)) (by simp)
    · rw [if_neg h8, if_pos (by simp; omega)]; rfl
theorem r6fam_is (a : Bs) : g_ref06_Family (a, ()) = some ((famF a, ()), ()) := by
  rw [g_ref06_Family_eq]
  unfold famF
  by_cases h4 : a.length = 4
  · rw [if_pos h4, if_pos (by simp [h4])]
  · rw [if_neg h4, if_neg (by simp; omega)]
    by_cases h16 : a.length = 16
    · rw [if_pos h16, if_pos (by simp [h16])]
    · rw [if_neg h16, if_neg (by simp; omega)]
theorem joinN_len {α : Type} (c : UInt8) (f : α → Bs) (hf : ∀ x, (f x).length ≤ 9) (l : List α) : (joinC c (l.map f)).length ≤ 10 * l.length := by
  have := joinC_len c (l.map f) (fun p hp => by obtain ⟨i, _, rfl⟩ := List.mem_map.1 hp; exact hf i)
  simpa using this
theorem pre4_le (a : Bs) : ∀ k, (pre4 a k).length ≤ 10 * k
  | 0 => by simp [pre4]
  | k + 1 => by
    have h1 := pre4_le a k
    have h2 := numR_le 10 9 (a.getD k 0).toNat
    rw [pre4, List.length_append, List.length_append]
    split <;> simp only [List.length_nil, List.length_cons] <;> omega
theorem pre16_le (a : Bs) : ∀ k, (pre16 a k).length ≤ 10 * k
  | 0 => by simp [pre16]
  | k + 1 => by
    have h1 := pre16_le a k
    have h2 := numR_le 16 9 (256 * (a.getD (2 * k) 0).toNat + (a.getD (2 * k + 1) 0).toNat)
    rw [pre16, List.length_append, List.length_append]
    split <;> simp only [List.length_nil, List.length_cons] <;> omega
theorem rtext_loop0 {n : Nat} {a : Bs} (ha : a.length = 4) : ∀ (d i m : Nat), i + d = 4 → d < m → L_ref06_Text_0 n m a (pre4 a i) i = some ((pre4 a 4, true, ()), ())
  | 0, i, m, h, hm => by
    obtain ⟨m, rfl⟩ : ∃ k, m = k + 1 := ⟨m - 1, by omega⟩
    rw [L_ref06_Text_0_eq, ifn (by omega), show i = 4 by omega]
  | d + 1, i, m, h, hm => by
    obtain ⟨m, rfl⟩ : ∃ k, m = k + 1 := ⟨m - 1, by omega⟩
    have hi : i < a.length := by omega
    have hb := (a[i]).toNat_lt
    have hp := pre4_le a i
    have go := rtext_loop0 (n := n) ha d (i + 1) m (by omega) (by omega)
    have hg : a.getD i 0 = a[i] := by simp [List.getD, hi]
    have hn := rnumber6_is (b := 10) (v := (a[i]).toNat) (by decide) (by decide) (by omega) (by omega)
    have hl := numR_le 10 9 (a[i]).toNat
    rw [show ((10 : Nat) : Int) = 10 from rfl] at hn
    rw [show ((i + 1 : Nat) : Int) = (i : Int) + 1 by omega, pre4, hg] at go
    rw [L_ref06_Text_0_eq, ifd (by omega)]
    by_cases h0 : i = 0
    · subst h0
      rw [ifn (by omega), if_pos (by omega), Int.toNat_natCast, bind_at hi, w64n, hn, Option.bind_some]
      dsimp only
      rw [if_pos (maxB_of (by omega)), w64 (x := ((0 : Nat) : Int) + 1) (by omega) (by omega)]
      rw [if_pos rfl, List.append_nil] at go
      exact go
    · rw [ifd (by omega), if_pos (maxB_of (by omega)), if_pos (by omega), Int.toNat_natCast, bind_at hi, w64n, hn, Option.bind_some]
      dsimp only
      rw [if_pos (maxB_of (by simp; omega)), w64 (x := (i : Int) + 1) (by omega) (by omega)]
      rw [if_neg h0] at go
      exact go
theorem rtext_loop1 {n : Nat} {a : Bs} (ha : a.length = 16) : ∀ (d i m : Nat), i + d = 8 → d < m → L_ref06_Text_1 n m a (pre16 a i) ((2 * i : Nat) : Int) = some ((pre16 a 8, true, ()), ())
  | 0, i, m, h, hm => by
    obtain ⟨m, rfl⟩ : ∃ k, m = k + 1 := ⟨m - 1, by omega⟩
    rw [L_ref06_Text_1_eq, ifn (by omega), show i = 8 by omega]
  | d + 1, i, m, h, hm => by
    obtain ⟨m, rfl⟩ : ∃ k, m = k + 1 := ⟨m - 1, by omega⟩
    have hi : 2 * i < a.length := by omega
    have hi1 : 2 * i + 1 < a.length := by omega
    have hb := (a[2 * i]).toNat_lt
    have hb1 := (a[2 * i + 1]).toNat_lt
    have hp := pre16_le a i
    have go := rtext_loop1 (n := n) ha d (i + 1) m (by omega) (by omega)
    have hg : a.getD (2 * i) 0 = a[2 * i] := by simp [List.getD, hi]
    have hg1 : a.getD (2 * i + 1) 0 = a[2 * i + 1] := by simp [List.getD, hi1]
    have hn := rnumber6_is (b := 16) (v := 256 * (a[2 * i]).toNat + (a[2 * i + 1]).toNat) (by decide) (by decide) (by omega) (by omega)
    have hl := numR_le 16 9 (256 * (a[2 * i]).toNat + (a[2 * i + 1]).toNat)
    rw [show ((16 : Nat) : Int) = 16 from rfl, show ((256 * (a[2 * i]).toNat + (a[2 * i + 1]).toNat : Nat) : Int) = 256 * ((a[2 * i]).toNat : Int) + ((a[2 * i + 1]).toNat : Int) by omega] at hn
    rw [show ((2 * (i + 1) : Nat) : Int) = ((2 * i : Nat) : Int) + 2 by omega, pre16, hg, hg1] at go
    have e1 : IntKind.wrap .i64 (((2 * i : Nat) : Int) + 1) = ((2 * i + 1 : Nat) : Int) := by rw [w64 (by omega) (by omega)]; omega
    rw [L_ref06_Text_1_eq, ifd (by omega)]
    by_cases h0 : i = 0
    · rw [ifn (by omega), if_pos (by omega), Int.toNat_natCast, bind_at hi, e1, if_pos (by omega), Int.toNat_natCast, bind_at hi1, w64n, w64n, w64 (x := 256 * ((a[2 * i]).toNat : Int)) (by omega) (by omega), w64 (x := 256 * ((a[2 * i]).toNat : Int) + ((a[2 * i + 1]).toNat : Int)) (by omega) (by omega), hn, Option.bind_some]
      dsimp only
      rw [if_pos (maxB_of (by omega)), w64 (x := ((2 * i : Nat) : Int) + 2) (by omega) (by omega)]
      rw [if_pos h0, List.append_nil] at go
      exact go
    · rw [ifd (by omega), if_pos (maxB_of (by omega)), if_pos (by omega), Int.toNat_natCast, bind_at hi, e1, if_pos (by omega), Int.toNat_natCast, bind_at hi1, w64n, w64n, w64 (x := 256 * ((a[2 * i]).toNat : Int)) (by omega) (by omega), w64 (x := 256 * ((a[2 * i]).toNat : Int) + ((a[2 * i + 1]).toNat : Int)) (by omega) (by omega), hn, Option.bind_some]
      dsimp only
      rw [if_pos (maxB_of (by simp; omega)), w64 (x := ((2 * i : Nat) : Int) + 2) (by omega) (by omega)]
      rw [if_neg h0] at go
      exact go
theorem r6text_is (a : Bs) : g_ref06_Text (a, ()) = some (((textA a).1, (textA a).2, ()), ()) := by
  show h_ref06_Text fuel _ = _
  rw [h_ref06_Text_eq, r6fam_is, Option.bind_some]
  unfold textA famF
  dsimp only
  by_cases h4 : a.length = 4
  · rw [if_pos h4, if_pos (by decide), if_pos h4]
    exact rtext_loop0 (n := fuel) h4 4 0 fuel (by omega) (fuel_ge (by decide))
  · rw [if_neg h4]
    by_cases h16 : a.length = 16
    · rw [if_pos h16, if_neg (by decide), if_pos (by decide), if_neg h4, if_pos h16]
      exact rtext_loop1 (n := fuel) h16 8 0 fuel (by omega) (fuel_ge (by decide))
    · rw [if_neg h16, if_neg (by decide), if_neg (by decide), if_neg h4, if_neg h16]
end Go.VP
