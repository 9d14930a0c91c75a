/- Library functions whose contracts stand on the shelf. -/
import Derived.Test.YtblajikhleocpaaDoorFH
import Derived.Test.YtblajikhleocpaaDoorShelf
import Derived.Shelf.Strings.SplitCore
set_option linter.unusedVariables false
set_option linter.unusedSimpArgs false
namespace Go.VI
open Go Go.Proofs Go.RowKit
theorem bytes_eq (s : ByteArray) : (⟨⟨s.data.toList⟩⟩ : ByteArray) = s := by cases s; rfl
theorem indexByte_bd (l : List UInt8) (c : UInt8) : -1 ≤ Lib.indexByte l c ∧ Lib.indexByte l c ≤ l.length := by
  induction l with
  | nil => simp [Lib.indexByte]
  | cons x r ih =>
    rw [Lib.indexByte]
    split <;> simp only [List.length_cons] <;> (try split) <;> omega
theorem args1 {w : World} {I : Nat → Nat → Prop} {who : Nat → Option (Nat × Option Nat)} {loc : Nat → Nat × Nat} {c : CV U.τ} {vs : List Value} (h : ArgsRel Tryd.prog U w I who loc [.val false [c]] vs 0) : ∃ v, vs = [v] ∧ PC Tryd.prog U w I c v := by
  cases h with
  | val _ _ u1 _ vs1 _ h1 ha =>
  cases ha with
  | nil =>
  obtain ⟨c1, e1, h1⟩ := h1
  cases e1
  exact ⟨_, rfl, h1⟩
theorem args2 {w : World} {I : Nat → Nat → Prop} {who : Nat → Option (Nat × Option Nat)} {loc : Nat → Nat × Nat} {c d : CV U.τ} {vs : List Value} (h : ArgsRel Tryd.prog U w I who loc [.val false [c], .val false [d]] vs 0) : ∃ v u, vs = [v, u] ∧ PC Tryd.prog U w I c v ∧ PC Tryd.prog U w I d u := by
  cases h with
  | val _ _ u1 _ vs1 _ h1 ha =>
  cases ha with
  | val _ _ u2 _ vs2 _ h2 ha =>
  cases ha with
  | nil =>
  obtain ⟨c1, e1, h1⟩ := h1
  obtain ⟨c2, e2, h2⟩ := h2
  cases e1; cases e2
  exact ⟨_, _, rfl, h1, h2⟩
theorem pc_str {w : World} {I : Nat → Nat → Prop} {s : List UInt8} {v : Value} (h : PC Tryd.prog U w I (.str s) v) : v = .string ⟨⟨s⟩⟩ := by
  cases h with
  | str _ hs => rfl
  | nil _ e f h1 h2 => cases h1
  | emp _ e p cap h1 => cases h1
  | row _ e css f b off cap h1 => cases h1
theorem pc_int {w : World} {I : Nat → Nat → Prop} {k : IntKind} {n : Int} {v : Value} (h : PC Tryd.prog U w I (.int k n) v) : v = .int k n ∧ k.has n := by
  cases h with
  | int _ _ hk => exact ⟨rfl, hk⟩
  | nil _ e f h1 h2 => cases h1
  | emp _ e p cap h1 => cases h1
  | row _ e css f b off cap h1 => cases h1
theorem has64x {x : Int} (h : -9223372036854775808 ≤ x ∧ x ≤ 9223372036854775807) : IntKind.has .i64 x := by
  unfold IntKind.has; exact ⟨by rw [show IntKind.i64.min = -9223372036854775808 from rfl]; exact h.1, by rw [show IntKind.i64.max = 9223372036854775807 from rfl]; exact h.2⟩
theorem x_strings_IndexByte_ok : OkE e_strings_IndexByte := by
  have key : ∀ (s : List UInt8) (c : Int) (r : (Int × Unit) × Unit), x_strings_IndexByte (s, c, ()) = some r → CallOk Tryd.prog U 52 [.val false [.str s], .val false [.int .u8 c]] (sg_strings_IndexByte.out r) := by
    intro s c r h
    unfold x_strings_IndexByte at h
    dsimp only at h
    by_cases hl : s.length ≤ 1000000
    · rw [if_pos hl] at h
      injection h with h
      subst h
      refine ext_ok (callable Tryd.func52 (by kernel_rfl) (by kernel_rfl)) rfl (fun G0 w vs ha henv => ?_)
      obtain ⟨v, u, rfl, h1, h2⟩ := args2 ha
      rw [pc_str h1, (pc_int h2).1]
      refine (Tryd.strings_IndexByte ⟨⟨s⟩⟩ c w).mono fun e w' ⟨he, hw⟩ => ?_
      subst hw
      have hb := indexByte_bd s c.toNat.toUInt8
      exact ⟨_, he, Below.refl _ _, fun _ _ => False, fun _ _ h => h.elim, PC.int _ _ (has64x (by show _ ≤ Lib.indexByte s c.toNat.toUInt8 ∧ Lib.indexByte s c.toNat.toUInt8 ≤ _; omega))⟩
    · rw [if_neg hl] at h; cases h
  intro x r h
  exact key _ _ _ h
theorem x_strings_Count_ok : OkE e_strings_Count := by
  have key : ∀ (s t : List UInt8) (r : (Int × Unit) × Unit), x_strings_Count (s, t, ()) = some r → CallOk Tryd.prog U 27 [.val false [.str s], .val false [.str t]] (sg_strings_Count.out r) := by
    intro s t r h
    match t, h with
    | [c], h =>
      unfold x_strings_Count at h
      dsimp only at h
      injection h with h
      subst h
      refine ext_ok (callable Tryd.func27 (by kernel_rfl) (by kernel_rfl)) rfl (fun G0 w vs ha henv => ?_)
      obtain ⟨v, u, rfl, h1, h2⟩ := args2 ha
      have hs : (s.length : Int) ≤ maxLenI := by
        cases h1 with
        | str _ hs => exact hs
        | nil _ e f h1 h2 => cases h1
        | emp _ e p cap h1 => cases h1
        | row _ e css f b off cap h1 => cases h1
      rw [pc_str h1, pc_str h2]
      refine (Tryd.strings_Count_one ⟨⟨s⟩⟩ c w).mono fun e w' ⟨he, hw⟩ => ?_
      subst hw
      have hb := List.count_le_length (a := c) (l := s)
      unfold maxLenI at hs
      exact ⟨_, he, Below.refl _ _, fun _ _ => False, fun _ _ h => h.elim, PC.int _ _ (has64x (by show _ ≤ ((s.count c : Nat) : Int) ∧ ((s.count c : Nat) : Int) ≤ _; omega))⟩
    | [], h => cases h
    | _ :: _ :: _, h => cases h
  intro x r h
  exact key _ _ _ h
end Go.VI
