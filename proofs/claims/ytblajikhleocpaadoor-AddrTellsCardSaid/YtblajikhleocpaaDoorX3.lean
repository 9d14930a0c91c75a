/- strconv.FormatInt at base 16. -/
import Derived.Test.YtblajikhleocpaaDoorX2
import Derived.Lib.Walk
import Derived.Lib.ItoaWalk
import Derived.WalkKit
import Derived.RegionTactic
import Derived.BigCall
import Derived.BigGuard
import Derived.CellFam
set_option linter.unusedVariables false
set_option linter.unusedSimpArgs false
namespace Go.Proofs
open Go.Shelf Go.RowKit Go.Sort Go.Lib
set_option maxHeartbeats 4000000 in
theorem Tryd.tz64_16 (w : World) (h : w.cell? ⟨3, 15, none⟩ = some (.int .u8 4)) : Calls Tryd.prog 64 #[.int .u64 16] w fun e w' => e = .returned (.int .i64 4) ∧ w' = w := by
  have hix : IntKind.u64.wrap (bits BinOp.and IntKind.u64 16 (IntKind.u64.wrap (-16)) * 285870213051353865) / 288230376151711744 = 15 := by decide +kernel
  go_enter Tryd.func64, Tryd.ntmps64
  go_wp2
  go_ret
  exact ⟨rfl, rfl⟩
set_option maxHeartbeats 4000000 in
theorem Tryd.tz_16 (w : World) (h : w.cell? ⟨3, 15, none⟩ = some (.int .u8 4)) : Calls Tryd.prog 57 #[.int .u64 16] w fun e w' => e = .returned (.int .i64 4) ∧ w' = w := by
  go_enter Tryd.func57, Tryd.ntmps57
  go_wp2_with (go_at_call 64; refine (Tryd.tz64_16 _ h).mono ?_; rintro e w' ⟨rfl, rfl⟩)
  go_ret
  exact ⟨rfl, rfl⟩
theorem Tryd.p2_16 (w : World) : Calls Tryd.prog 56 #[.int .i64 16] w fun e w' => e = .returned (.bool true) ∧ w' = w := by
  go_enter Tryd.func56, Tryd.ntmps56
  go_wp2
  go_ret
  exact ⟨rfl, rfl⟩

def zeros65 : Array Value := Array.replicate 65 (.int .u8 0)
abbrev eb : UInt8 → Value := fun b => Value.int .u8 (b.toNat : Int)
structure Inv16 (u k : Nat) (d : Array UInt8) : Prop where
  size : d.size = 65
  done : ∀ j, j < k → d[64 - j]! = Go.VI.digitC (u / 16 ^ j % 16)
  big : ∀ j, j < k → 16 ≤ u / 16 ^ j
theorem holds65 (w : World) (T : TypeId) : Holds eb (w.alloc (.cells zeros65 T)) w.heap.size 0 (Array.replicate 65 (0 : UInt8)) := fun j hj => by
  have hj' : j < 65 := by simpa using hj
  refine ⟨?_, World.frozen?_alloc_new _ _ _ _⟩
  rw [World.cell?_alloc_new, getElem!_pos _ j hj]
  simp [zeros65, hj']
theorem dg_at : ∀ (n : Nat), n < 16 → (#[48, 49, 50, 51, 52, 53, 54, 55, 56, 57, 97, 98, 99, 100, 101, 102, 103, 104, 105, 106, 107, 108, 109, 110, 111, 112, 113, 114, 115, 116, 117, 118, 119, 120, 121, 122] : Array UInt8)[n]? = some (Go.VI.digitC n) := by decide
theorem dg_is (n : Nat) (h : n < 16) (hn : n < (⟨#[48, 49, 50, 51, 52, 53, 54, 55, 56, 57, 97, 98, 99, 100, 101, 102, 103, 104, 105, 106, 107, 108, 109, 110, 111, 112, 113, 114, 115, 116, 117, 118, 119, 120, 121, 122]⟩ : ByteArray).size) : (⟨#[48, 49, 50, 51, 52, 53, 54, 55, 56, 57, 97, 98, 99, 100, 101, 102, 103, 104, 105, 106, 107, 108, 109, 110, 111, 112, 113, 114, 115, 116, 117, 118, 119, 120, 121, 122]⟩ : ByteArray)[n]'(hn) = Go.VI.digitC n := by
  have := dg_at n h
  exact (Array.getElem?_eq_some_iff.1 this).2
theorem and15 (x : Nat) (h : x < 65536) : bits BinOp.and IntKind.u64 (x : Int) 15 = ((x % 16 : Nat) : Int) := by
  have e1 : (BitVec.ofInt 64 (x : Int) &&& BitVec.ofInt 64 15).toNat = x % 16 := by
    rw [BitVec.toNat_and, show BitVec.ofInt 64 (x : Int) = BitVec.ofNat 64 x from by simp, BitVec.toNat_ofNat, show (BitVec.ofInt 64 15).toNat = 2 ^ 4 - 1 by decide, Nat.and_two_pow_sub_one_eq_mod, Nat.mod_eq_of_lt (show x < 2 ^ 64 by omega)]
  show IntKind.wrap .u64 (((BitVec.ofInt 64 (x : Int) &&& BitVec.ofInt 64 15).toNat : Nat) : Int) = _
  rw [e1, IntKind.wrap_u64]
  omega
theorem numR_dig {b : Nat} (hb : 2 ≤ b) : ∀ (k f u : Nat), k < f → (∀ j, j < k → b ≤ u / b ^ j) → u / b ^ k < b → (Go.VI.numR b f u).length = k + 1 ∧ ∀ j, j ≤ k → (Go.VI.numR b f u)[j]? = some (Go.VI.digitC (u / b ^ (k - j) % b))
  | 0, f + 1, u, _, _, h => by
    rw [Nat.pow_zero, Nat.div_one] at h
    rw [Go.VI.numR, if_pos h]
    refine ⟨rfl, fun j hj => ?_⟩
    obtain rfl : j = 0 := by omega
    rw [Nat.sub_zero, Nat.pow_zero, Nat.div_one, Nat.mod_eq_of_lt h]; rfl
  | k + 1, f + 1, u, hf, hbig, h => by
    have h0 := hbig 0 (by omega)
    rw [Nat.pow_zero, Nat.div_one] at h0
    have hd : ∀ j, u / b / b ^ j = u / b ^ (j + 1) := fun j => by rw [Nat.div_div_eq_div_mul, Nat.pow_succ, Nat.mul_comm]
    obtain ⟨i1, i2⟩ := numR_dig hb k f (u / b) (by omega) (fun j hj => by rw [hd]; exact hbig (j + 1) (by omega)) (by rw [hd]; exact h)
    rw [Go.VI.numR, if_neg (by omega)]
    refine ⟨by rw [List.length_append, i1]; rfl, fun j hj => ?_⟩
    by_cases hk : j ≤ k
    · rw [List.getElem?_append_left (by omega), i2 j hk, hd, show k - j + 1 = k + 1 - j by omega]
    · obtain rfl : j = k + 1 := by omega
      rw [List.getElem?_append_right (by omega), i1, Nat.sub_self, Nat.pow_zero, Nat.div_one]; rfl
set_option maxHeartbeats 4000000 in
set_option maxRecDepth 100000 in
theorem Tryd.fmt16 (u : Nat) (hu : u < 65536) (w : World) (h : w.cell? ⟨3, 15, none⟩ = some (.int .u8 4)) (hw : 4 ≤ w.heap.size) :
    Calls Tryd.prog 49 #[.slice none 0 0, .int .u64 u, .int .i64 16, .bool false, .bool false] w fun e w' => e = .returned (.tuple #[.slice none 0 0, .string ⟨(Go.VI.numR 16 9 u).toArray⟩]) ∧ ∃ k os, w' = grow (w.drewN k) os := by
  go_enter Tryd.func49, Tryd.ntmps49
  go_wp2_with (first
    | (go_at_call 56; refine (Tryd.p2_16 _).mono ?_; rintro e w' ⟨rfl, rfl⟩)
    | (go_at_call 57; refine (Tryd.tz_16 _ (by rw [World.cell?_alloc_lt]; exact h; show 3 < w.heap.size; omega)).mono ?_; rintro e w' ⟨rfl, rfl⟩))
  go_loopw [1, 13] (fun vu vi wr => ∃ (k : Nat) (d : Array UInt8), k ≤ 3 ∧ vu = .int .u64 ((u / 16 ^ k : Nat) : Int) ∧ vi = .int .i64 ((65 - k : Nat) : Int) ∧ wr = putRow eb (w.alloc (.cells zeros65 65)) w.heap.size 0 d ∧ Hid (Inv16 u k d)) (fun vu _ _ => (RowKit.intOf vu).toNat)
  case atStart => exact ⟨0, Array.replicate 65 0, by omega, by simp, rfl, (putRow_self _ _ _ _ _ (holds65 w 65)).symm, ⟨by simp, fun j hj => by omega, fun j hj => by omega⟩⟩
  case round =>
    obtain ⟨k, d, hk, rfl, rfl, hw0, HI0⟩ := hrel
    rename World => W0
    have hs0 := HI0.out.size
    have hH0 : Holds eb W0 w.heap.size 0 d := by rw [hw0]; exact holds_putRow eb _ _ 0 _ d (holds65 w 65) (by rw [hs0]; simp)
    obtain ⟨G0, hG0⟩ : ∃ G : Nat → Int, ∀ t, G t = (d[t]!.toNat : Int) := ⟨_, fun _ => rfl⟩
    have hc0 : ∀ t, t < 65 → W0.cell? ⟨w.heap.size, t, none⟩ = some (.int .u8 (G0 t)) := fun t ht => by
      have := (hH0 t (by omega)).1
      rw [Nat.zero_add] at this
      rw [hG0]; exact this
    have hf0 : ∀ t, t < 65 → W0.frozen? ⟨w.heap.size, t, none⟩ = false := fun t ht => by
      have := (hH0 t (by omega)).2
      rw [Nat.zero_add] at this
      exact this
    have AW0 := Lib.hid hw0
    have HG := Lib.hid hG0
    clear hw0 hG0 hH0
    obtain ⟨x, hx⟩ : ∃ x, x = u / 16 ^ k := ⟨_, rfl⟩
    have hxlt : x < 65536 := by have := Nat.div_le_self u (16 ^ k); omega
    obtain ⟨i, hi⟩ : ∃ i, i = 64 - k := ⟨_, rfl⟩
    rw [← hx, show 65 - k = i + 1 by omega]
    have hi0 : i ≤ 64 := by omega
    have hi1 : 61 ≤ i := by omega
    have HX := Lib.hid hx
    have HIi := Lib.hid hi
    clear hx hi
    have hcI := hc0 i (by omega)
    have hfI := hf0 i (by omega)
    clear hf0
    have HC := Lib.hid hc0
    clear hc0
    by_cases hge : 16 ≤ x
    · have hbit : bits BinOp.and IntKind.u64 (x : Int) 15 = ((x % 16 : Nat) : Int) := and15 x hxlt
      go_wp2
      go_roundw
      case rel =>
        have hx := HX.out
        have hi := HIi.out
        have hI := HI0.out
        have hk1 : k + 1 ≤ 3 := by
          rcases Nat.lt_or_ge k 3 with h3 | h3
          · omega
          · obtain rfl : k = 3 := by omega
            have : u / 16 ^ 3 < 16 := Nat.div_lt_of_lt_mul (by omega)
            omega
        refine ⟨k + 1, d.setIfInBounds i (Go.VI.digitC (x % 16)), hk1, ?_, ?_, ?_, ⟨?_, ?_, ?_⟩⟩
        · rw [Nat.pow_succ, ← Nat.div_div_eq_div_mul, ← hx]; simp
        · rw [show 65 - (k + 1) = i by omega]
        · rw [AW0.out, ← putRow_set eb _ _ 0 d i _ (by rw [hs0]; omega), Nat.zero_add, dg_is _ (by omega)]
        · rw [Array.size_setIfInBounds]; exact hs0
        · intro j hj
          by_cases hjk : j = k
          · subst hjk
            rw [show 64 - j = i by omega, getElem!_pos _ _ (by rw [Array.size_setIfInBounds, hs0]; omega), Array.getElem_setIfInBounds_self, ← hx]
          · have hd := hI.done j (by omega)
            rw [getElem!_pos d (64 - j) (by rw [hs0]; omega)] at hd
            have hlt : 64 - j < d.size := by rw [hs0]; omega
            rw [getElem!_pos _ _ (by rw [Array.size_setIfInBounds, hs0]; omega), Array.getElem_setIfInBounds_ne _ (by omega), hd]
            exact hlt
        · intro j hj
          by_cases hjk : j = k
          · subst hjk; rw [← hx]; exact hge
          · exact hI.big j (by omega)
      case measure => simp [RowKit.intOf]; omega
    · have hx16 : x < 16 := by omega
      have hne : ¬ ((i : Int) = 65) := by omega
      have hne2 : ¬ ((65 : Int) = i) := by omega
      have hle : (i : Int) ≤ 65 := by omega
      obtain ⟨n1, n2⟩ := numR_dig (b := 16) (by decide) k 9 u (by omega) HI0.out.big (by rw [← HX.out]; exact hx16)
      have hcv : (convert 29 9 (.slice (some ⟨w.heap.size, i, none⟩) (65 - i) (65 - i))).run Tryd.prog (W0.setCell ⟨w.heap.size, i, none⟩ (.int .u8 (((⟨#[48, 49, 50, 51, 52, 53, 54, 55, 56, 57, 97, 98, 99, 100, 101, 102, 103, 104, 105, 106, 107, 108, 109, 110, 111, 112, 113, 114, 115, 116, 117, 118, 119, 120, 121, 122]⟩ : ByteArray)[x]'(by show x < 36; omega)).toNat : Int))) = .ok (.string ⟨(Go.VI.numR 16 9 u).toArray⟩) (W0.setCell ⟨w.heap.size, i, none⟩ (.int .u8 (((⟨#[48, 49, 50, 51, 52, 53, 54, 55, 56, 57, 97, 98, 99, 100, 101, 102, 103, 104, 105, 106, 107, 108, 109, 110, 111, 112, 113, 114, 115, 116, 117, 118, 119, 120, 121, 122]⟩ : ByteArray)[x]'(by show x < 36; omega)).toNat : Int))) := by
        have hi := HIi.out
        have h := run_convert_bytes_back (P := Tryd.prog) (W0.setCell ⟨w.heap.size, i, none⟩ (.int .u8 (((⟨#[48, 49, 50, 51, 52, 53, 54, 55, 56, 57, 97, 98, 99, 100, 101, 102, 103, 104, 105, 106, 107, 108, 109, 110, 111, 112, 113, 114, 115, 116, 117, 118, 119, 120, 121, 122]⟩ : ByteArray)[x]'(by show x < 36; omega)).toNat : Int))) 29 9 5 ⟨w.heap.size, i, none⟩ (65 - i) (Go.VI.numR 16 9 u) Tryd.underlying29 Tryd.underlying5 Tryd.underlying9 (fun j hj => by
          have hI := HI0.out
          have hx := HX.out
          rw [n1] at hj
          have hget := (List.getElem?_eq_some_iff.1 (n2 j (by omega))).2
          rw [hget, Lib.add_plain]
          by_cases h0 : j = 0
          · subst h0
            rw [Nat.add_zero, World.cell?_setCell_same' _ _ _ (by rw [hcI]; rfl), dg_is x hx16, Nat.sub_zero, ← hx, Nat.mod_eq_of_lt hx16]
          · rw [World.cell?_setCell_other (a := ⟨w.heap.size, i, none⟩) (b := ⟨w.heap.size, i + j, none⟩) _ _ (by intro e; injection e with _ e; omega), HC.out (i + j) (by omega), HG.out, ← hI.done (k - j) (by omega), show 64 - (k - j) = i + j by omega])
        rw [n1, show k + 1 = 65 - i by omega] at h
        exact h
      clear n1 n2
      go_wp2
      go_ret2
      refine ⟨rfl, 0, ?_⟩
      rw [AW0.out, dg_is x hx16]
      have e := putRow_set eb (w.alloc (.cells zeros65 65)) w.heap.size 0 d i (Go.VI.digitC x) (by rw [hs0]; omega)
      rw [Nat.zero_add] at e
      show ∃ os, (putRow eb (w.alloc (.cells zeros65 65)) w.heap.size 0 d).setCell ⟨w.heap.size, i, none⟩ (eb (Go.VI.digitC x)) = _
      rw [e, alloc_eq_grow]
      obtain ⟨os', _, e⟩ := putRow_grow_new eb w #[Obj.cells zeros65 65] w.heap.size 0 (d.setIfInBounds i (Go.VI.digitC x)) (Nat.le_refl _)
      exact ⟨os', by rw [e]; rfl⟩
set_option maxHeartbeats 4000000 in
set_option maxRecDepth 100000 in
theorem Tryd.fmtInt16i (u : Nat) (hu : u < 65536) (w : World) (h : w.cell? ⟨3, 15, none⟩ = some (.int .u8 4)) (hw : 4 ≤ w.heap.size) :
    Calls Tryd.prog 38 #[.int .i64 u, .int .i64 16] w fun e w' => e = .returned (.string ⟨(Go.VI.numR 16 9 u).toArray⟩) ∧ ∃ k os, w' = grow (w.drewN k) os := by
  go_enter Tryd.func38, Tryd.ntmps38
  go_wp2_with (go_at_call 49; refine (Tryd.fmt16 u hu _ h hw).mono ?_; rintro e w' ⟨rfl, k, os, rfl⟩)
  go_ret
  exact ⟨rfl, k, os, rfl⟩
theorem Tryd.fmtInt16 (u : Nat) (hu : u < 65536) (w : World) (h : w.cell? ⟨3, 15, none⟩ = some (.int .u8 4)) (hw : 4 ≤ w.heap.size) :
    Calls Tryd.prog 25 #[.int .i64 u, .int .i64 16] w fun e w' => e = .returned (.string ⟨(Go.VI.numR 16 9 u).toArray⟩) ∧ ∃ k os, w' = grow (w.drewN k) os := by
  go_enter Tryd.func25, Tryd.ntmps25
  go_wp2_with (go_at_call 38; refine (Tryd.fmtInt16i u hu _ h hw).mono ?_; rintro e w' ⟨rfl, k, os, rfl⟩)
  go_ret
  exact ⟨rfl, k, os, rfl⟩
end Go.Proofs
