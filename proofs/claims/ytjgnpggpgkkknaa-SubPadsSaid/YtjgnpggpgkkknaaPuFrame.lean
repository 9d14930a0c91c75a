/- Frames of Babel: what the program and the document make of bytes. -/
import Derived.Test.YtjgnpggpgkkknaaPr10
import Derived.Test.YtjgnpggpgkkknaaPr11
import Derived.Test.YtjgnpggpgkkknaaPr12
import Derived.Test.YtjgnpggpgkkknaaPr9
import Derived.Test.YtjgnpggpgkkknaaPuBase
import Derived.Test.YtjgnpggpgkkknaaPuOctet
namespace Go.Proofs.Ytjgnpggpgkkknaa.Pure
open Go.RowKit Go.Proofs.Ytjgnpggpgkkknaa.Pr Go.Proofs.YtjgnpggpgkkknaaW.PrintWords Go.Proofs.YtjgnpggpgkkknaaW.PrintLast Go.Proofs.YtjgnpggpgkkknaaW.PrintMore
set_option linter.unusedVariables false
set_option linter.unusedSimpArgs false
abbrev Tlv := S47

/-- The TLVs of s from place p on, told from place base on; or the place where they break off. d: rounds. -/
def splitG (s : ByteArray) (base : Int) : Nat → Int → List Tlv → List Tlv × Int × Int
  | 0, _, acc => (acc, 0, 0)
  | d + 1, p, acc =>
    if p < s.size then
      if bt s p = 0 then splitG s base d (p + 1) (acc ++ [⟨0, base + p, ⟨#[]⟩⟩])
      else if s.size - p < 2 ∨ s.size - p - 2 < bt s (p + 1) then ([], base + p, 2)
      else splitG s base d (p + 2 + bt s (p + 1)) (acc ++ [⟨bt s p, base + p, s.extract (p + 2).toNat (p + 2 + bt s (p + 1)).toNat⟩])
    else (acc, 0, 0)
/-- More rounds tell the same. -/
theorem splitG_more (s : ByteArray) (base : Int) : ∀ (d e : Nat) (p : Int) (acc : List Tlv), s.size - p ≤ d → d ≤ e → splitG s base e p acc = splitG s base d p acc := by
  intro d
  induction d with
  | zero =>
    intro e p acc h he
    cases e with
    | zero => rfl
    | succ e => simp only [splitG]; rw [if_neg (by omega)]
  | succ d ih =>
    intro e p acc h he
    obtain ⟨e, rfl⟩ : ∃ m, e = m + 1 := ⟨e - 1, by omega⟩
    have := bt_nn s (p + 1)
    simp only [splitG]
    split
    · split
      · exact ih _ _ _ (by omega) (by omega)
      · split
        · rfl
        · exact ih _ _ _ (by omega) (by omega)
    · rfl
def splitF (s : ByteArray) (base : Int) : List Tlv × Int × Int := splitG s base s.size 0 []

def Small (s : ByteArray) : Prop := s.size ≤ 1099511627776
theorem next_is {s : ByteArray} {p q : Int} {k : Nat} (hc : Cur s p q) (hq : p < q) (hk : 10 ≤ k) :
    frame_next.f k s p q false = some (if bt s p = 0 then (0, p, ⟨#[]⟩, s, p + 1, q, false)
      else if q - p < 2 then (bt s p, p, ⟨#[]⟩, s, p + 1, q, true)
      else if q - p - 2 < bt s (p + 1) then (bt s p, p, ⟨#[]⟩, s, p + 2, q, true)
      else (bt s p, p, s.extract (p + 2).toNat (p + 2 + bt s (p + 1)).toNat, s, p + 2 + bt s (p + 1), q, false)) := by
  have hc' := hc
  unfold Cur at hc
  have hb := bt_nn s p
  have hb1 := bt_nn s (p + 1)
  unfold frame_next.f
  rw [num_is hc' hk]
  unfold NumR
  rw [if_pos ⟨rfl, by omega, by omega, by omega⟩, num1 (by omega) (by omega)]
  simp only [Option.bind_some]
  by_cases h0 : bt s p = 0
  · rw [if_pos h0, if_pos h0, h0]
  · rw [if_neg h0, if_neg h0, num_is ⟨by omega, by omega, by omega, by omega⟩ hk]
    unfold NumR
    by_cases h2 : q - p < 2
    · rw [if_neg (fun h => by omega), if_pos h2]
      simp only [Option.bind_some]
      rw [text_is ⟨by omega, by omega, by omega, by omega⟩]
      unfold TextR
      rw [if_neg (by simp)]
      rfl
    · rw [if_pos ⟨rfl, by omega, by omega, by omega⟩, if_neg h2, num1 (by omega) (by omega)]
      simp only [Option.bind_some]
      rw [text_is ⟨by omega, by omega, by omega, by omega⟩]
      unfold TextR
      have e : p + 1 + 1 = p + 2 := by omega
      rw [e]
      by_cases h3 : q - p - 2 < bt s (p + 1)
      · rw [if_neg (fun h => by omega), if_pos h3]
        rfl
      · rw [if_pos ⟨rfl, by omega, by omega⟩, if_neg h3]
        rfl
theorem split_loop {s : ByteArray} {base : Int} (hs : Small s) (hb : 0 ≤ base ∧ base ≤ 1152921504606846976) : ∀ (d k : Nat) (p : Int) (acc : List Tlv), 0 ≤ p → p ≤ s.size → s.size - p ≤ d → d + 20 ≤ k → (acc.length : Int) ≤ p →
    frame_Split.l0 k base acc s p (s.size : Int) false = some (splitG s base d p acc) := by
  unfold Small at hs
  intro d
  induction d with
  | zero =>
    intro k p acc h0 h1 h2 hk ha
    obtain ⟨k, rfl⟩ : ∃ m, k = m + 1 := ⟨k - 1, by omega⟩
    rw [frame_Split.l0, cursor_Left.f, if_neg (by simp), w64 (by omega) (by omega)]
    simp only [Option.bind_some]
    rw [if_neg (by omega)]
    rfl
  | succ d ih =>
    intro k p acc h0 h1 h2 hk ha
    obtain ⟨k, rfl⟩ : ∃ m, k = m + 1 := ⟨k - 1, by omega⟩
    have hn := bt_nn s (p + 1)
    have hl := bt_lt s (p + 1)
    rw [frame_Split.l0, cursor_Left.f, if_neg (by simp), w64 (by omega) (by omega), splitG]
    simp only [Option.bind_some]
    by_cases hp : p < s.size
    · rw [if_pos (by omega), if_pos hp, next_is ⟨h0, h1, by omega, by omega⟩ hp (by omega)]
      simp only [Option.bind_some]
      by_cases hz : bt s p = 0
      · rw [if_pos hz, if_pos hz]
        simp only []
        rw [if_neg (show ¬ (false = true) by decide), if_pos (by omega), w64 (by omega) (by omega), Int.add_comm p base]
        exact ih k (p + 1) _ (by omega) (by omega) (by omega) (by omega) (by simp; omega)
      · rw [if_neg hz, if_neg hz]
        by_cases h2 : (s.size : Int) - p < 2
        · rw [if_pos h2]
          simp only [if_true]
          rw [if_pos (Or.inl h2), w64 (by omega) (by omega), Int.add_comm p base]
        · rw [if_neg h2]
          by_cases h3 : (s.size : Int) - p - 2 < bt s (p + 1)
          · rw [if_pos h3]
            simp only [if_true]
            rw [if_pos (Or.inr h3), w64 (by omega) (by omega), Int.add_comm p base]
          · rw [if_neg h3]
            simp only []
            rw [if_neg (show ¬ (false = true) by decide), if_pos (by omega), if_neg (by omega), w64 (by omega) (by omega), Int.add_comm p base]
            exact ih k _ _ (by omega) (by omega) (by omega) (by omega) (by simp; omega)
    · rw [if_neg (by omega), if_neg hp]
theorem split_is {s : ByteArray} {base : Int} (hs : Small s) (hb : 0 ≤ base ∧ base ≤ 1152921504606846976) {k : Nat} (hk : s.size + 20 ≤ k) : frame_Split.f k s base = some (splitF s base) := by
  unfold frame_Split.f cursor_New.f
  simp only [Option.bind_some]
  exact split_loop hs hb s.size k 0 [] (by omega) (by omega) (by omega) hk (by simp)
theorem rsplit_loop {s : ByteArray} {base : Int} (hs : Small s) (hb : 0 ≤ base ∧ base ≤ 1152921504606846976) : ∀ (d k : Nat) (p : Int) (acc : List Tlv), 0 ≤ p → p ≤ s.size → s.size - p ≤ d → d < k → (acc.length : Int) ≤ p →
    roadbookref18_Split.l0 k s base acc p = some (splitG s base d p acc) := by
  unfold Small at hs
  intro d
  induction d with
  | zero =>
    intro k p acc h0 h1 h2 hk ha
    obtain ⟨k, rfl⟩ : ∃ m, k = m + 1 := ⟨k - 1, by omega⟩
    rw [roadbookref18_Split.l0, if_neg (by omega)]
    rfl
  | succ d ih =>
    intro k p acc h0 h1 h2 hk ha
    obtain ⟨k, rfl⟩ : ∃ m, k = m + 1 := ⟨k - 1, by omega⟩
    have hn := bt_nn s (p + 1)
    have hl := bt_lt s (p + 1)
    have hn0 := bt_nn s p
    have hl0 := bt_lt s p
    rw [roadbookref18_Split.l0, splitG]
    by_cases hp : p < s.size
    · rw [if_pos hp, if_pos hp, if_pos h0]
      by_cases hz : bt s p = 0
      · rw [if_pos hz, if_pos hz, if_pos (by omega), w64 (x := base + p) (by omega) (by omega), w64 (by omega) (by omega)]
        exact ih k (p + 1) _ (by omega) (by omega) (by omega) (by omega) (by simp; omega)
      · rw [if_neg hz, if_neg hz, w64 (x := base + p) (by omega) (by omega), w64 (x := (s.size : Int) - p) (by omega) (by omega), w64 (x := p + 1) (by omega) (by omega), w64 (x := p + 2) (by omega) (by omega), w64 (x := bt s (p + 1)) (by omega) (by omega), w64 (x := bt s p) (by omega) (by omega), w64 (x := (s.size : Int) - p - 2) (by omega) (by omega), w64 (x := p + 2 + bt s (p + 1)) (by omega) (by omega)]
        by_cases h2 : (s.size : Int) - p < 2
        · rw [if_pos h2, if_pos (Or.inl h2)]
        · rw [if_neg h2, if_pos (by omega), if_pos (by omega)]
          by_cases h3 : (s.size : Int) - p - 2 < bt s (p + 1)
          · rw [if_pos h3, if_pos (Or.inr h3)]
          · rw [if_neg h3, if_pos (by omega), if_pos (by omega), if_pos (by omega), if_pos (by omega), if_neg (by omega)]
            exact ih k _ _ (by omega) (by omega) (by omega) (by omega) (by simp; omega)
    · rw [if_neg hp, if_neg hp]
theorem rsplit_is {s : ByteArray} {base : Int} (hs : Small s) (hb : 0 ≤ base ∧ base ≤ 1152921504606846976) {k : Nat} (hk : s.size < k) : roadbookref18_Split.f k s base = some (splitF s base) := by
  unfold roadbookref18_Split.f
  exact rsplit_loop hs hb s.size k 0 [] (by omega) (by omega) (by omega) hk (by simp)

/-- The body of a datagram. -/
def bodyF (s : ByteArray) : ByteArray × Int × Int :=
  if s.size > 65535 then (⟨#[]⟩, 65535, 10) else if s.size < 4 then (⟨#[]⟩, s.size, 2) else if bt s 0 = 42 then (if bt s 1 = 2 then (if s.size < 4 + N2 s 2 then (⟨#[]⟩, s.size, 2) else (s.extract 4 (4 + N2 s 2).toNat, 0, 0)) else (⟨#[]⟩, 1, 4)) else (⟨#[]⟩, 0, 4)
theorem size_is {s : ByteArray} (h : 4 ≤ s.size) : frame_size.f s = some (N2 s 2) := by
  unfold frame_size.f N2
  have := bt_nn s 2; have := bt_lt s 2; have := bt_nn s 3; have := bt_lt s 3
  rw [if_pos (by omega), if_pos (by omega), w64 (x := bt s 2) (by omega) (by omega), or_add (by omega) (by omega) (by omega) (by omega)]
  rfl
theorem body_is {s : ByteArray} : frame_Body.f s = some (bodyF s) := by
  unfold frame_Body.f bodyF
  have := bt_nn s 2; have := bt_lt s 2; have := bt_nn s 3; have := bt_lt s 3
  have hn : 0 ≤ N2 s 2 ∧ N2 s 2 < 65536 := by unfold N2; simp; omega
  by_cases h1 : s.size > 65535
  · rw [if_pos (by omega), if_pos h1]
  · rw [if_neg (by omega), if_neg h1]
    by_cases h2 : s.size < 4
    · rw [if_pos (by omega), if_pos h2]
    · rw [if_neg (by omega), if_neg h2, if_pos (by omega)]
      by_cases h3 : bt s 0 = 42
      · rw [if_pos h3, if_pos h3, if_pos (by omega)]
        by_cases h4 : bt s 1 = 2
        · rw [if_pos h4, if_pos h4, size_is (by omega)]
          simp only [Option.bind_some]
          rw [w64 (by omega) (by omega)]
          by_cases h5 : (s.size : Int) < 4 + N2 s 2
          · rw [if_pos h5, if_pos h5]
          · rw [if_neg h5, if_neg h5, if_pos (by omega), if_pos (by omega)]
        · rw [if_neg h4, if_neg h4]
      · rw [if_neg h3, if_neg h3]
theorem rbody_is {s : ByteArray} : roadbookref18_Body.f s = some (bodyF s) := by
  unfold roadbookref18_Body.f bodyF
  have h2 := bt_nn s 2; have h2' := bt_lt s 2; have h3 := bt_nn s 3; have h3' := bt_lt s 3
  have e : 4 + (256 * bt s 2 + bt s 3) = 4 + N2 s 2 := by unfold N2; simp; omega
  rw [w64 (x := bt s 2) (by omega) (by omega), w64 (x := bt s 3) (by omega) (by omega), w64 (x := 256 * bt s 2) (by omega) (by omega), w64 (x := 256 * bt s 2 + bt s 3) (by omega) (by omega), w64 (x := 4 + (256 * bt s 2 + bt s 3)) (by omega) (by omega), e]
  have hn : 0 ≤ N2 s 2 := by unfold N2; simp; omega
  by_cases h1 : s.size > 65535
  · rw [if_pos (by omega), if_pos h1]
  · rw [if_neg (by omega), if_neg h1]
    by_cases h2 : s.size < 4
    · rw [if_pos (by omega), if_pos h2]
    · rw [if_neg (by omega), if_neg h2, if_pos (by omega)]
      by_cases h3 : bt s 0 = 42
      · rw [if_pos h3, if_pos h3, if_pos (by omega)]
        by_cases h4 : bt s 1 = 2
        · rw [if_pos h4, if_pos h4, if_pos (by omega), if_pos (by omega)]
          by_cases h5 : (s.size : Int) < 4 + N2 s 2
          · rw [if_pos h5, if_pos h5]
          · rw [if_neg h5, if_neg h5, if_pos (by omega), if_pos (by omega)]
        · rw [if_neg h4, if_neg h4]
      · rw [if_neg h3, if_neg h3]
/-- The datagram of a body. -/
def wrapF (s : ByteArray) : ByteArray × Bool := if s.size ≤ 65531 then ((⟨#[42, 2]⟩ ++ B2 s.size) ++ s, true) else (⟨#[]⟩, false)
theorem b2_sz (n : Int) : (B2 n).size = 2 := by simp [B2, size_nums]
theorem sz42 : (⟨#[42, 2]⟩ : ByteArray).size = 2 := rfl
theorem wrap_is {s : ByteArray} (hs : Small s) {k : Nat} (hk : 10 ≤ k) : frame_Wrap.f k s = some (wrapF s) := by
  unfold Small at hs
  unfold frame_Wrap.f wrapF
  have e1 : 2 + (B2 (s.size : Int)).size ≤ 9223372036854775807 := by rw [b2_sz]; omega
  have e2 : ((⟨#[42, 2]⟩ : ByteArray) ++ B2 (s.size : Int)).size + s.size ≤ 9223372036854775807 := by rw [size_append, b2_sz, sz42]; omega
  by_cases h : s.size ≤ 65531
  · rw [put2_is (by omega) hk, if_pos (show (0 : Int) ≤ (s.size : Int) ∧ (s.size : Int) < 65536 by omega), if_pos h, Option.bind_some, if_pos rfl, if_neg (by omega), if_pos e1, if_pos e2]
  · rw [if_neg h, put2_is (by omega) hk, Option.bind_some]
    by_cases h2 : (0 : Int) ≤ (s.size : Int) ∧ (s.size : Int) < 65536
    · rw [if_pos h2, if_pos rfl, if_pos (by omega)]
    · rw [if_neg h2, if_neg (by decide)]
theorem rwrap_is {s : ByteArray} (hs : Small s) {k : Nat} (hk : 10 ≤ k) : roadbookref18_Wrap.f k s = some (wrapF s) := by
  unfold Small at hs
  unfold roadbookref18_Wrap.f wrapF roadbookref02_Of.f
  have e1 : 2 + (B2 (s.size : Int)).size ≤ 9223372036854775807 := by rw [b2_sz]; omega
  have e2 : ((⟨#[42, 2]⟩ : ByteArray) ++ B2 (s.size : Int)).size + s.size ≤ 9223372036854775807 := by rw [size_append, b2_sz, sz42]; omega
  by_cases h : s.size ≤ 65531
  · rw [if_neg (by omega), if_pos h, rput2_is (by omega) hk, if_pos (show (0 : Int) ≤ (s.size : Int) ∧ (s.size : Int) < 65536 by omega), Option.bind_some, Option.bind_some, if_pos e1, if_pos e2]
  · rw [if_pos (by omega), if_neg h]
/-- The bytes of a TLV. -/
def tputF (t : Int) (d : ByteArray) : ByteArray × Bool := if 1 ≤ t ∧ t ≤ 255 ∧ d.size ≤ 255 then (strOfNums [t, d.size] ++ d, true) else (⟨#[]⟩, false)
theorem tput_is {t : Int} {d : ByteArray} : frame_Put.f t d = some (tputF t d) := by
  unfold frame_Put.f tputF
  by_cases h1 : t < 1
  · rw [if_pos h1, if_neg (by omega)]
  · rw [if_neg h1]
    by_cases h2 : t > 255
    · rw [if_pos h2, if_neg (by omega)]
    · rw [if_neg h2]
      by_cases h3 : (d.size : Int) > 255
      · rw [if_pos h3, if_neg (by omega)]
      · rw [if_neg h3, if_pos (by omega), Int.emod_eq_of_lt (by omega) (by omega), Int.emod_eq_of_lt (by omega) (by omega)]
        simp only [Option.bind_some]
        rw [if_pos (by rw [size_nums]; simp; omega)]
theorem rtput_is {t : Int} {d : ByteArray} : roadbookref18_Put.f t d = some (tputF t d) := tput_is (t := t) (d := d)
theorem trailer_is {s : ByteArray} (h : (bodyF s).2.2 = 0) : frame_Trailer.f s = some (s.extract (4 + N2 s 2).toNat s.size) := by
  have := bt_nn s 2; have := bt_lt s 2; have := bt_nn s 3; have := bt_lt s 3
  have hn : 0 ≤ N2 s 2 ∧ N2 s 2 < 65536 := by unfold N2; simp; omega
  have hs : 4 ≤ s.size ∧ 4 + N2 s 2 ≤ s.size := by
    unfold bodyF at h
    split at h
    · simp at h
    · split at h
      · simp at h
      · split at h
        · split at h
          · split at h
            · simp at h
            · omega
          · simp at h
        · simp at h
  unfold frame_Trailer.f
  rw [size_is hs.1]
  simp only [Option.bind_some]
  rw [w64 (by omega) (by omega), if_pos (by omega), if_pos (by omega)]
theorem body_ok {s : ByteArray} (h : (bodyF s).2.2 = 0) : bodyF s = (s.extract 4 (4 + N2 s 2).toNat, 0, 0) ∧ 0 ≤ N2 s 2 ∧ 4 + N2 s 2 ≤ s.size ∧ s.size ≤ 65535 := by
  have := bt_nn s 2; have := bt_lt s 2; have := bt_nn s 3; have := bt_lt s 3
  have hn : 0 ≤ N2 s 2 ∧ N2 s 2 < 65536 := by unfold N2; simp; omega
  unfold bodyF at h ⊢
  split at h
  · simp at h
  · rename_i h1
    split at h
    · simp at h
    · rename_i h2
      split at h
      · rename_i h3
        split at h
        · rename_i h4
          split at h
          · simp at h
          · rename_i h5
            rw [if_neg h1, if_neg h2, if_pos h3, if_pos h4, if_neg h5]
            exact ⟨rfl, by omega, by omega, by omega⟩
        · simp at h
      · simp at h
theorem rtrailer_is {s : ByteArray} (h : (bodyF s).2.2 = 0) : roadbookref18_Trailer.f s = some (s.extract (4 + N2 s 2).toNat s.size) := by
  obtain ⟨e, h1, h2, h3⟩ := body_ok h
  unfold roadbookref18_Trailer.f
  rw [rbody_is, e, Option.bind_some]
  have : (s.extract 4 (4 + N2 s 2).toNat).size = (N2 s 2).toNat := by rw [size_ext (by omega) (by omega)]; omega
  have e2 : ((N2 s 2).toNat : Int) = N2 s 2 := by omega
  show (if 0 ≤ wrap64 (4 + ((s.extract 4 (4 + N2 s 2).toNat).size : Int)) then if wrap64 (4 + ((s.extract 4 (4 + N2 s 2).toNat).size : Int)) ≤ (s.size : Int) then some (s.extract (wrap64 (4 + ((s.extract 4 (4 + N2 s 2).toNat).size : Int))).toNat s.size) else none else none) = _
  rw [this, e2, w64 (by omega) (by omega), if_pos (by omega), if_pos (by omega)]
end Go.Proofs.Ytjgnpggpgkkknaa.Pure
