/- An address's text. -/
import Derived.Test.YtblajikhleocpaaDoorX0
import Derived.Test.YtblajikhleocpaaDoorX3
import Derived.StillTailTactics
set_option linter.unusedVariables false
set_option linter.unusedSimpArgs false
namespace Go.Proofs
open Go.Shelf Go.RowKit Go.Sort Go.Lib
open Go.VI (pre4 pre16)
theorem builder_below {T e : TypeId} {B b : Nat} {bs : List Value} {w w' : World} (h : IsBuilderF T e B b bs w) (hb : Below w.heap.size w w') : IsBuilderF T e B b bs w' := by
  have one : ∀ p, BuilderAtF T e B b p bs w → BuilderAtF T e B b p bs w' := fun p ⟨hB, v, hbk, hown, hne⟩ => by
    have lt : ∀ (k : Nat) (o : Obj), w.heap[k]? = some o → k < w.heap.size := fun k o hk => (Array.getElem?_eq_some_iff.1 hk).1
    refine ⟨hB, v, (hb.block b (lt _ _ hbk)).trans hbk, ⟨hown.1, ?_⟩, hne⟩
    rcases hown.2 with hn | ⟨g, cap, cur, fz, hv, hbg, hg, rest⟩
    · exact .inl hn
    · exact .inr ⟨g, cap, cur, fz, hv, hbg, (hb.block g (lt _ _ hg)).trans hg, rest⟩
  exact h.elim (fun x => .inl (one _ x)) (fun x => .inr (one _ x))
theorem grow_below (w : World) (k : Nat) (os : Array Obj) : Below w.heap.size w (grow (w.drewN k) os) :=
  ⟨rfl, rfl, rfl, by simp [grow], fun i hi => by
    show (w.heap ++ os)[i]? = w.heap[i]?
    rw [Array.getElem?_append_left hi]⟩
theorem env_below {w w' : World} (h : Go.VI.envW w) (hw : 4 ≤ w.heap.size) {B : Nat} (hB : 4 ≤ B) (hb : Below B w w') : Go.VI.envW w' :=
  Go.VI.envW_stable w w' (fun b hlt => hb.block b (by omega)) h
theorem env_cell {w : World} (h : Go.VI.envW w) : w.cell? ⟨3, 15, none⟩ = some (.int .u8 4) := by
  obtain ⟨_, c, T, fz, h2, h3⟩ := h
  simp [World.cell?, h2, h3]
/-- A number's decimal digits. -/
theorem dig10 : ∀ u, u < 10 → UInt8.ofNat (48 + u) = Go.VI.digitC u := by decide
theorem dec_eq : ∀ (f u : Nat), u < 10 ^ f → 0 < f → Lib.decDigits u = Go.VI.numR 10 f u
  | f + 1, u, hu, _ => by
    by_cases h : u < 10
    · rw [Lib.decDigits_one h, Go.VI.numR, if_pos h, dig10 u h]
    · have hf : 0 < f := by
        rcases Nat.eq_zero_or_pos f with rfl | h'
        · simp at hu; omega
        · exact h'
      rw [Lib.decDigits, dif_neg h, Go.VI.numR, if_neg h, dig10 _ (Nat.mod_lt _ (by decide)), dec_eq f (u / 10) (by rw [Nat.pow_succ] at hu; omega) hf]
theorem numR_len (b : Nat) : ∀ (f n : Nat), (Go.VI.numR b f n).length ≤ f
  | 0, n => by simp [Go.VI.numR]
  | f + 1, n => by
    rw [Go.VI.numR]
    split
    · simp
    · have := numR_len b f (n / b)
      rw [List.length_append, List.length_singleton]; omega
theorem pre4_len (a : List UInt8) : ∀ k, (pre4 a k).length ≤ 10 * k
  | 0 => by simp [pre4]
  | k + 1 => by
    have h1 := pre4_len a k
    have h2 := numR_len 10 9 (a.getD k 0).toNat
    rw [pre4, List.length_append, List.length_append]
    split
    · rw [List.length_nil]; omega
    · rw [List.length_singleton]; omega
theorem pre16_len (a : List UInt8) : ∀ k, (pre16 a k).length ≤ 10 * k
  | 0 => by simp [pre16]
  | k + 1 => by
    have h1 := pre16_len a k
    have h2 := numR_len 16 9 (256 * (a.getD (2 * k) 0).toNat + (a.getD (2 * k + 1) 0).toNat)
    rw [pre16, List.length_append, List.length_append]
    split
    · rw [List.length_nil]; omega
    · rw [List.length_singleton]; omega
set_option maxHeartbeats 4000000 in
set_option maxRecDepth 100000 in
theorem Tryd.text4 (a : ByteArray) (w : World) (hsz : a.size = 4) (henv : Go.VI.envW w) (hw : 4 ≤ w.heap.size) :
    Calls Tryd.prog 7 #[.string a] w fun e w' => e = .returned (.tuple #[.string ⟨(pre4 a.data.toList 4).toArray⟩, .bool true]) ∧ Below w.heap.size w w' := by
  have h0 : Lib.IsBuilderF 31 5 w.heap.size w.heap.size [] (w.alloc (.cells #[.pointer none, .slice none 0 0] 31)) := Lib.IsBuilderF.of (Lib.fresh_isBuilder 31 5 w)
  have b0 : Below w.heap.size w (w.alloc (.cells #[.pointer none, .slice none 0 0] 31)) := (Below.refl _ w).alloc (Nat.le_refl _) _
  have hfam : ∀ W, Calls Tryd.prog 13 #[.string a] W fun e w' => e = .returned (.int .i64 0) ∧ w' = W := fun W => by
    go_enter Tryd.func13, Tryd.ntmps13
    go_wp2
    go_ret
    exact ⟨rfl, rfl⟩
  go_enter Tryd.func7, Tryd.ntmps7
  go_wp2_with (go_at_call 13; refine (hfam _).mono ?_; rintro e w' ⟨rfl, rfl⟩)
  go_loopw [11] (fun vi wr => ∃ k : Nat, k ≤ 4 ∧ vi = .int .i64 k ∧ Hid (IsBuilderF 31 5 w.heap.size w.heap.size (byteCells (pre4 a.data.toList k)) wr) ∧ Hid (Below w.heap.size w wr)) (fun vi _ => (4 - RowKit.intOf vi).toNat)
  case atStart => exact ⟨0, by omega, rfl, h0, b0⟩
  case round =>
    obtain ⟨k, hk, rfl, HB, HL⟩ := hrel
    rename World => W0
    have henv0 : Hid (Go.VI.envW W0) := env_below henv hw hw HL.out
    have hsz0 : w.heap.size ≤ W0.heap.size := HL.out.size
    by_cases hk4 : k < 4
    · have hka : k < a.size := by omega
      have step : ∀ (W1 : World) (l : List UInt8), l.length ≤ 10 * k + 1 → IsBuilderF 31 5 w.heap.size w.heap.size (byteCells l) W1 → Below w.heap.size w W1 → Go.VI.envW W1 →
          Calls Tryd.prog 24 #[.int .i64 (a[k].toNat : Int)] W1 fun e W2 => e = .returned (.string ⟨(Go.VI.numR 10 9 a[k].toNat).toArray⟩) ∧ IsBuilderF 31 5 w.heap.size w.heap.size (byteCells l) W2 ∧ Below w.heap.size w W2 := fun W1 l hl hb hbel he => by
        refine (Tryd.strconv_Itoa (a[k].toNat : Int) (by omega) (by have := a[k].toNat_lt; omega) W1 he.1).mono fun e W2 ⟨h1, q, os, h2⟩ => ?_
        subst h2
        refine ⟨?_, builder_below hb (grow_below W1 q os), hbel.trans ((grow_below W1 q os).mono hbel.size)⟩
        rw [h1, Lib.itoa_nonneg, dec_eq 9 _ (by have := a[k].toNat_lt; omega) (by decide)]
      have wr : ∀ (W1 : World) (l m : List UInt8), l.length + m.length ≤ 100000 → IsBuilderF 31 5 w.heap.size w.heap.size (byteCells l) W1 → Below w.heap.size w W1 →
          Calls Tryd.prog 23 #[.pointer (some ⟨w.heap.size, 0, none⟩), .string ⟨m.toArray⟩] W1 fun e W2 => ∃ n, e = .returned (.tuple #[.int .i64 n, .nilIface]) ∧ IsBuilderF 31 5 w.heap.size w.heap.size (byteCells (l ++ m)) W2 ∧ Below w.heap.size w W2 := fun W1 l m hl hb hbel => by
        refine (Tryd.Builder_WriteString_f w.heap.size w.heap.size (byteCells l) ⟨m.toArray⟩ W1 hb (by rw [Lib.byteCells_length]; show l.length + m.toArray.size ≤ _; simp only [List.size_toArray]; omega) hbel.size).mono fun e W2 ⟨h1, h2, h3⟩ => ?_
        refine ⟨_, h1, ?_, hbel.trans h3⟩
        rw [Lib.strCells_eq] at h2
        rw [Lib.byteCells_append]
        exact Or.inr h2
      have hb0 : 0 ≤ (a[k].toNat : Int) := by omega
      have hb1 : (a[k].toNat : Int) ≤ 255 := by have := a[k].toNat_lt; omega
      have hgd : a.data.toList.getD k 0 = a[k] := by
        rw [List.getD_eq_getElem?_getD, List.getElem?_eq_getElem (by simpa using hka)]; rfl
      have hpl := pre4_len a.data.toList k
      have hnl : (Go.VI.numR 10 9 a[k].toNat).length ≤ 9 := numR_len _ _ _
      have HP : Hid (pre4 a.data.toList (k + 1) = pre4 a.data.toList k ++ (if k = 0 then [] else [46]) ++ Go.VI.numR 10 9 a[k].toNat) := by show pre4 _ k ++ _ ++ _ = _; rw [hgd]
      clear hgd
      by_cases hk0 : k = 0
      · subst hk0
        go_wp2_with fail
        refine (step _ (pre4 a.data.toList 0) (by omega) HB.out HL.out henv0.out).mono ?_
        rintro e W2 ⟨rfl, hB2, hL2⟩
        have HB2 := Lib.hid hB2
        have HL2 := Lib.hid hL2
        clear hB2 hL2
        go_wp2_with fail
        refine (wr _ _ _ (by omega) HB2.out HL2.out).mono ?_
        rintro e W3 ⟨n, rfl, hB3, hL3⟩
        have HB3 := Lib.hid hB3
        have HL3 := Lib.hid hL3
        clear hB3 hL3
        go_wp2
        go_roundw
        case rel => exact ⟨1, by omega, rfl, Lib.hid (by rw [HP.out]; simpa using HB3.out), HL3⟩
        case measure => simp [RowKit.intOf]
      · have hk0' : ¬ ((k : Int) = 0) := by omega
        have hkp : 0 < (k : Int) := by omega
        have hkp' : 1 ≤ (k : Int) := by omega
        go_wp2_with fail
        refine (wr _ (pre4 a.data.toList k) [46] (by simp; omega) HB.out HL.out).mono ?_
        rintro e W1 ⟨n1, rfl, hB1, hL1⟩
        have HB1 := Lib.hid hB1
        have HL1 := Lib.hid hL1
        have henv1 : Hid (Go.VI.envW W1) := env_below henv hw hw hL1
        clear hB1 hL1
        go_wp2_with fail
        refine (step _ (pre4 a.data.toList k ++ [46]) (by simp; omega) HB1.out HL1.out henv1.out).mono ?_
        rintro e W2 ⟨rfl, hB2, hL2⟩
        have HB2 := Lib.hid hB2
        have HL2 := Lib.hid hL2
        clear hB2 hL2
        go_wp2_with fail
        refine (wr _ _ _ (by simp; omega) HB2.out HL2.out).mono ?_
        rintro e W3 ⟨n, rfl, hB3, hL3⟩
        have HB3 := Lib.hid hB3
        have HL3 := Lib.hid hL3
        clear hB3 hL3
        go_wp2
        go_roundw
        case rel => exact ⟨k + 1, by omega, by go_num, Lib.hid (by rw [HP.out, if_neg hk0]; exact HB3.out), HL3⟩
        case measure => simp [RowKit.intOf]; omega
    · obtain rfl : k = 4 := by omega
      go_wp2_with fail
      refine (Tryd.Builder_String_any_f w.heap.size w.heap.size (pre4 a.data.toList 4) _ HB.out hsz0).mono ?_
      rintro e W1 ⟨rfl, _, hL1⟩
      have HL1 := Lib.hid hL1
      clear hL1
      go_wp2
      go_ret2
      exact ⟨rfl, HL.out.trans HL1.out⟩
end Go.Proofs
