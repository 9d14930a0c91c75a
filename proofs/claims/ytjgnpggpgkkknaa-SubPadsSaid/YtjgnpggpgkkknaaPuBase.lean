/- Plain facts of bytes and numbers, and what the cursor and the octets come to. -/
import Derived.Test.YtjgnpggpgkkknaaPr5
import Derived.Test.YtjgnpggpgkkknaaPr7
import Derived.Test.YtjgnpggpgkkknaaPr8
import Derived.Test.YtjgnpggpgkkknaaPr9
import Derived.Laws.BitsLemmas
import Derived.Laws.Strings
namespace Go.Proofs.Ytjgnpggpgkkknaa.Pure
open Go.RowKit Go.Proofs.Ytjgnpggpgkkknaa.Pr Go.Proofs.YtjgnpggpgkkknaaW.PrintWords Go.Proofs.YtjgnpggpgkkknaaW.PrintLast Go.Proofs.YtjgnpggpgkkknaaW.PrintMore
set_option linter.unusedVariables false
set_option linter.unusedSimpArgs false

theorem w64 {x : Int} (h0 : -9223372036854775808 ≤ x) (h1 : x ≤ 9223372036854775807) : wrap64 x = x := by unfold wrap64; omega
theorem bt_nn (s : ByteArray) (i : Int) : 0 ≤ bt s i := by unfold bt; split <;> omega
theorem bt_lt (s : ByteArray) (i : Int) : bt s i < 256 := by
  unfold bt
  split
  · have := (s[i.toNat]).toNat_lt; omega
  · omega
theorem i64_rng {x : Int} (h : (Lit.int .i64 x).wf = true) : -9223372036854775808 ≤ x ∧ x ≤ 9223372036854775807 := by
  simp only [Lit.wf, IntKind.min, IntKind.max, IntKind.bits, IntKind.signed] at h
  simp at h
  omega
theorem ext_toList {a b : ByteArray} (h : a.toList = b.toList) : a = b := by
  rw [ByteArray.toList_eq, ByteArray.toList_eq] at h
  exact ByteArray.ext (Array.toList_inj.1 h)
theorem size_ext {s : ByteArray} {a b : Nat} (h : a ≤ b) (h2 : b ≤ s.size) : (s.extract a b).size = b - a := by
  rw [ByteArray.size_extract]; omega
theorem bt_data (s : ByteArray) (i : Nat) : bt s i = ((s.data.toList.getD i 0).toNat : Int) := by
  unfold bt
  split
  · rename_i h
    have h' : i < s.data.toList.length := by rw [data_length]; exact h
    simp [List.getD_eq_getElem?_getD, List.getElem?_eq_getElem h']
    rfl
  · rename_i h
    have h' : s.data.toList.length ≤ i := by rw [data_length]; simpa using h
    simp [List.getD_eq_getElem?_getD, List.getElem?_eq_none h']
/-- Bytes that are the same at each place are the same. -/
theorem ext_bt {a b : ByteArray} (hs : a.size = b.size) (h : ∀ i : Nat, i < a.size → bt a i = bt b i) : a = b := by
  apply ByteArray.ext
  apply Array.ext
  · exact hs
  · intro i h1 h2
    have := h i h1
    rw [bt_data, bt_data] at this
    have e1 : a.data.toList.getD i 0 = a.data[i] := by simp only [List.getD_eq_getElem?_getD, Array.getElem?_toList, Array.getElem?_eq_getElem h1, Option.getD_some]
    have e2 : b.data.toList.getD i 0 = b.data[i] := by simp only [List.getD_eq_getElem?_getD, Array.getElem?_toList, Array.getElem?_eq_getElem h2, Option.getD_some]
    rw [e1, e2] at this
    exact UInt8.toNat_inj.1 (by omega)
theorem bt_extract {s : ByteArray} {a b : Nat} {i : Int} (h0 : 0 ≤ i) (h : a + i < b) (hb : b ≤ s.size) : bt (s.extract a b) i = bt s (a + i) := by
  obtain ⟨j, rfl⟩ := Int.eq_ofNat_of_zero_le h0
  have e : ((a : Int) + (j : Int)) = ((a + j : Nat) : Int) := by omega
  rw [e, bt_data, bt_data, ByteArray.data_extract]
  have hl : s.data.toList.length = s.size := data_length s
  have h3 : (s.data.extract a b).toList = (s.data.toList.drop a).take (b - a) := by simp
  rw [h3, List.getD_eq_getElem?_getD, List.getD_eq_getElem?_getD, List.getElem?_take_of_lt (by omega), List.getElem?_drop]
theorem bt_append (a b : ByteArray) (i : Nat) : bt (a ++ b) i = if i < a.size then bt a i else bt b ((i - a.size : Nat) : Int) := by
  rw [bt_data, ByteArray.data_append, Array.toList_append]
  have hl : a.data.toList.length = a.size := data_length a
  split
  · rename_i h
    rw [bt_data, List.getD_eq_getElem?_getD, List.getElem?_append_left (by omega), ← List.getD_eq_getElem?_getD]
  · rename_i h
    rw [bt_data, List.getD_eq_getElem?_getD, List.getElem?_append_right (by omega), hl, ← List.getD_eq_getElem?_getD]
theorem size_nums (l : List Int) : (strOfNums l).size = l.length := strOfNums_size l
theorem bt_nums (l : List Int) (h : ∀ x ∈ l, 0 ≤ x ∧ x < 256) (i : Nat) : bt (strOfNums l) i = l.getD i 0 := by
  rw [bt_data, strOfNums_data]
  by_cases hi : i < l.length
  · have := h l[i] (List.getElem_mem hi)
    simp [List.getD_eq_getElem?_getD, hi]
    omega
  · simp [List.getD_eq_getElem?_getD, List.getElem?_eq_none (show l.length ≤ i by omega), List.getElem?_eq_none (show (l.map fun n : Int => UInt8.ofNat n.toNat).length ≤ i by simpa using hi)]
theorem nums_append (a b : List Int) : strOfNums (a ++ b) = strOfNums a ++ strOfNums b := by
  apply ByteArray.ext
  rw [ByteArray.data_append]
  simp [strOfNums]
theorem empty_append (a : ByteArray) : (⟨#[]⟩ : ByteArray) ++ a = a := by
  apply ByteArray.ext
  rw [ByteArray.data_append]
  simp
theorem append_empty (a : ByteArray) : a ++ (⟨#[]⟩ : ByteArray) = a := by
  apply ByteArray.ext
  rw [ByteArray.data_append]
  simp
theorem append_assoc (a b c : ByteArray) : (a ++ b) ++ c = a ++ (b ++ c) := by
  apply ByteArray.ext
  simp [ByteArray.data_append]
theorem size_append (a b : ByteArray) : (a ++ b).size = a.size + b.size := ByteArray.size_append
theorem empty_size : (⟨#[]⟩ : ByteArray).size = 0 := rfl
theorem eq_empty {a : ByteArray} (h : a.size = 0) : a = ⟨#[]⟩ := ext_bt h (fun i hi => by omega)

/-- The number of bytes, the highest first. -/
def numB (acc : Int) : List Int → Int
  | [] => acc
  | b :: l => numB (acc * 256 + b) l
theorem or_add {x b : Int} (h0 : 0 ≤ x) (h1 : x < 36028797018963968) (h2 : 0 ≤ b) (h3 : b < 256) : Go.bits .or .i64 (wrap64 (x * 256)) (wrap64 b) = x * 256 + b := by
  rw [w64 (by omega) (by omega), w64 (by omega) (by omega)]
  exact bits_join .i64 63 (by decide) (fun n h0 h1 => by rw [IntKind.wrap_i64]; omega) 8 _ _ (by omega) (by omega) (by omega) h2 (by omega) (by omega)
theorem bytesOf_rng (s : ByteArray) : ∀ x ∈ bytesOf s, 0 ≤ x ∧ x < 256 := by
  intro x hx
  unfold bytesOf at hx
  obtain ⟨b, _, rfl⟩ := List.mem_map.1 hx
  have := b.toNat_lt
  omega
theorem num_loop (y : List Int) (hy : ∀ x ∈ y, 0 ≤ x ∧ x < 256) (hl : y.length ≤ 7) (s : ByteArray) (p q : Int) (b : Bool) : ∀ (d : Nat) (k : Nat) (acc : Int) (i : Nat), y.length - i = d → i ≤ y.length → d < k → 0 ≤ acc → acc < 256 ^ i →
    cursor_Num.l0 k acc y (y.length : Int) i s p q b = some (numB acc (y.drop i), s, p, q, b) := by
  intro d
  induction d with
  | zero =>
    intro k acc i hd hi hk h0 h1
    obtain ⟨k, rfl⟩ : ∃ m, k = m + 1 := ⟨k - 1, by omega⟩
    rw [cursor_Num.l0, if_neg (by omega), List.drop_of_length_le (by omega)]
    rfl
  | succ d ih =>
    intro k acc i hd hi hk h0 h1
    obtain ⟨k, rfl⟩ : ∃ m, k = m + 1 := ⟨k - 1, by omega⟩
    have hlt : i < y.length := by omega
    have hb := hy y[i] (List.getElem_mem hlt)
    have hrd : rd y i = y[i] := by simp only [rd, Int.toNat_natCast, List.getD_eq_getElem?_getD, List.getElem?_eq_getElem hlt, Option.getD_some]
    have hp : (256 : Int) ^ i ≤ 256 ^ 6 := by
      have : i ≤ 6 := by omega
      have h6 : 256 ^ i ≤ 256 ^ 6 := Nat.pow_le_pow_right (by decide) this
      have e : ((256 ^ i : Nat) : Int) = 256 ^ i := Int.natCast_pow 256 i
      rw [← e]
      omega
    rw [cursor_Num.l0, if_pos (by omega), if_pos (by omega), if_pos (by omega), hrd, or_add h0 (by omega) hb.1 hb.2, w64 (by omega) (by omega)]
    have := ih k (acc * 256 + y[i]) (i + 1) (by omega) (by omega) (by omega) (by omega) (by rw [Int.pow_succ]; omega)
    rw [show ((i : Int) + 1) = ((i + 1 : Nat) : Int) by omega, this, List.drop_eq_getElem_cons hlt]
    rfl

/-- What a cursor that may be gives: a number, and a text. -/
def NumR (s : ByteArray) (p q : Int) (b : Bool) (n : Int) : Int × ByteArray × Int × Int × Bool :=
  if b = false ∧ 1 ≤ n ∧ n ≤ 7 ∧ n ≤ q - p then (numB 0 (bytesOf (s.extract p.toNat (p + n).toNat)), s, p + n, q, false) else (0, s, p, q, true)
def TextR (s : ByteArray) (p q : Int) (b : Bool) (n : Int) : ByteArray × ByteArray × Int × Int × Bool :=
  if b = false ∧ 0 ≤ n ∧ n ≤ q - p then (s.extract p.toNat (p + n).toNat, s, p + n, q, false) else (⟨#[]⟩, s, p, q, true)
def Cur (s : ByteArray) (p q : Int) : Prop := 0 ≤ p ∧ p ≤ q ∧ q ≤ s.size ∧ s.size ≤ 4611686018427387904
theorem step_yes {s : ByteArray} {p q n : Int} (hc : Cur s p q) (h0 : 0 ≤ n) (h : n ≤ q - p) : cursor_step.f s p q false n = some (s, p + n, q, false, true) := by
  unfold Cur at hc
  unfold cursor_step.f
  rw [if_neg (by simp), if_neg (by omega), w64 (by omega) (by omega), if_neg (by omega), w64 (by omega) (by omega)]
theorem step_no {s : ByteArray} {p q n : Int} {b : Bool} (hc : Cur s p q) (h : b = true ∨ n < 0 ∨ q - p < n) : cursor_step.f s p q b n = some (s, p, q, true, false) := by
  unfold Cur at hc
  unfold cursor_step.f
  by_cases hb : b = true
  · rw [if_pos hb]
  · rw [if_neg hb]
    have h' : n < 0 ∨ q - p < n := by
      rcases h with h | h
      · exact absurd h hb
      · exact h
    by_cases hn : n < 0
    · rw [if_pos hn]
    · rw [if_neg hn, w64 (by omega) (by omega), if_pos (by omega)]
theorem text_is {s : ByteArray} {p q : Int} {b : Bool} {n : Int} (hc : Cur s p q) : cursor_Text.f s p q b n = some (TextR s p q b n) := by
  unfold cursor_Text.f TextR
  by_cases h : b = false ∧ 0 ≤ n ∧ n ≤ q - p
  · rw [if_pos h]
    obtain ⟨rfl, h0, h1⟩ := h
    rw [step_yes hc h0 h1]
    unfold Cur at hc
    simp only [Option.bind_some, if_true]
    rw [if_pos (by omega), if_pos (by omega), if_pos (by omega)]
  · rw [if_neg h]
    rw [step_no hc (by
      by_cases hb : b = true
      · exact .inl hb
      · have hb : b = false := by simpa using hb
        right
        by_cases hn : n < 0
        · exact .inl hn
        · right
          have : ¬ (n ≤ q - p) := fun h2 => h ⟨hb, by omega, h2⟩
          omega)]
    simp
theorem num_is {s : ByteArray} {p q : Int} {b : Bool} {n : Int} (hc : Cur s p q) {k : Nat} (hk : 10 ≤ k) : cursor_Num.f k s p q b n = some (NumR s p q b n) := by
  obtain ⟨k, rfl⟩ : ∃ m, k = m + 10 := ⟨k - 10, by omega⟩
  unfold cursor_Num.f NumR
  by_cases h : b = false ∧ 1 ≤ n ∧ n ≤ 7 ∧ n ≤ q - p
  · rw [if_pos h]
    obtain ⟨rfl, h0, h1, h2⟩ := h
    rw [if_neg (by omega), cursor_Num.j0, if_neg (by simp; omega), step_yes hc (by omega) h2]
    unfold Cur at hc
    simp only [Option.bind_some, if_true]
    have hs : (s.extract p.toNat (p + n).toNat).size = n.toNat := by rw [size_ext (by omega) (by omega)]; omega
    rw [if_pos (by omega), if_pos (by omega), if_pos (by omega), if_pos (by omega)]
    have := num_loop (bytesOf (s.extract p.toNat (p + n).toNat)) (bytesOf_rng _) (by rw [bytesOf_length, hs]; omega) s (p + n) q false n.toNat (k + 9) 0 0 (by rw [bytesOf_length, hs]; omega) (by omega) (by omega) (by omega) (by simp)
    exact this
  · rw [if_neg h]
    by_cases h1 : n < 1
    · rw [if_pos h1, cursor_Num.j0, if_pos rfl]
    · rw [if_neg h1, cursor_Num.j0]
      by_cases h7 : n > 7
      · rw [if_pos (by simpa using h7)]
      · rw [if_neg (by simpa using h7), step_no hc (by
          by_cases hb : b = true
          · exact .inl hb
          · have hb : b = false := by simpa using hb
            right; right
            have : ¬ (n ≤ q - p) := fun h2 => h ⟨hb, by omega, by omega, h2⟩
            omega)]
        simp
end Go.Proofs.Ytjgnpggpgkkknaa.Pure
