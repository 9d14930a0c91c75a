/- What a walk wants to know of the functions that the evaluator knows: arguments, results, calls without pointers. -/
import Derived.Test.YtnccbadmlgfmgaaGreatFOk
import Derived.Test.YtnccbadmlgfmgaaGreatPKind
import Derived.WalkKit
set_option linter.unusedVariables false
set_option linter.unusedSimpArgs false
namespace Go.Proofs
open Go.RowKit
theorem drew_below (w : World) (B : Nat) : Below B w w.drew := ⟨rfl, rfl, rfl, Nat.le_refl _, fun _ _ => rfl⟩
end Go.Proofs
namespace Go.VI
open Go Go.Proofs Go.RowKit Go.VP
theorem pc_str {w : World} {I : Nat → Nat → Prop} {s : List UInt8} {v : Value} (h : PC Tryz.prog U w I (.str s) v) : v = .string ⟨⟨s⟩⟩ := by
  cases h with
  | str _ hs => rfl
  | nil _ e f h1 h2 => cases h1
  | emp _ e p cap h1 => cases h1
  | row _ e css f b off cap h1 => cases h1
theorem pc_int {w : World} {I : Nat → Nat → Prop} {k : IntKind} {n : Int} {v : Value} (h : PC Tryz.prog U w I (.int k n) v) : v = .int k n ∧ k.has n := by
  cases h with
  | int _ _ hk => exact ⟨rfl, hk⟩
  | nil _ e f h1 h2 => cases h1
  | emp _ e p cap h1 => cases h1
  | row _ e css f b off cap h1 => cases h1
theorem has64x {x : Int} (h : -9223372036854775808 ≤ x ∧ x ≤ 9223372036854775807) : IntKind.has .i64 x := by
  unfold IntKind.has; exact ⟨by rw [show IntKind.i64.min = -9223372036854775808 from rfl]; exact h.1, by rw [show IntKind.i64.max = 9223372036854775807 from rfl]; exact h.2⟩
abbrev noI : Nat → Nat → Prop := fun _ _ => False
theorem noI_cell (w : World) : ∀ b o, noI b o → (w.cell? ⟨b, o, none⟩).isSome = true := fun _ _ h => h.elim
/-- A function that the evaluator knows, called without pointers, in a walk. -/
theorem plain_calls {f : Nat} {ar : List (Arg U.τ)} {out : Out U.τ} {vs : Array Value} {w : World} {I : Nat → Nat → Prop} (h : CallOk Tryz.prog U f ar out)
    (ha : ArgsRel Tryz.prog U w I (fun _ => none) (fun _ => (0, 0)) ar vs.toList 0) (hi : ∀ b o, I b o → (w.cell? ⟨b, o, none⟩).isSome = true) (henv : U.env w) (hn : U.nb ≤ w.heap.size) :
    Calls Tryz.prog f vs w fun e w' => ∃ u, e = .returned u ∧ Below w.heap.size w w' ∧ ∃ J : Nat → Nat → Prop, (∀ b o, J b o → I b o ∨ w.heap.size ≤ b) ∧ RetOk Tryz.prog U w' J out.ret u := by
  have := h.2 ⟨I, fun _ => (0, 0), fun _ => none⟩ w vs.toList ha hi (fun b L hb => by cases hb) ⟨henv, hn, fun _ _ => rfl⟩
  rw [show vs.toList.toArray = vs by simp] at this
  refine this.mono fun e w' ⟨u, G', he, hs, hr, _⟩ => ⟨u, he, ⟨hs.os, hs.tape, hs.output, hs.size, fun k hk => hs.old k hk rfl⟩, G'.I, fun b o hb => ?_, hr⟩
  rcases hs.newI b o hb with h1 | h1 | h1
  · exact .inl h1
  · exact .inr h1
  · cases h1
theorem ret_str {w : World} {I : Nat → Nat → Prop} {s : List UInt8} {u : Value} (h : RetOk Tryz.prog U w I (.one (.str s)) u) : u = .string ⟨⟨s⟩⟩ := pc_str h
theorem ret_int {w : World} {I : Nat → Nat → Prop} {k : IntKind} {n : Int} {u : Value} (h : RetOk Tryz.prog U w I (.one (.int k n)) u) : u = .int k n := (pc_int h).1
theorem arg1_str {w : World} {s : List UInt8} {I : Nat → Nat → Prop} (hs : (s.length : Int) ≤ maxLenI) : ArgsRel Tryz.prog U w I (fun _ => none) (fun _ => (0, 0)) [.val false [.str s]] [.string ⟨⟨s⟩⟩] 0 :=
  .val _ _ _ _ _ _ ⟨_, rfl, .str s hs⟩ (.nil _)
theorem arg1_int {w : World} {n : Int} {I : Nat → Nat → Prop} (hn : -9223372036854775808 ≤ n ∧ n ≤ 9223372036854775807) : ArgsRel Tryz.prog U w I (fun _ => none) (fun _ => (0, 0)) [.val false [.int .i64 n]] [.int .i64 n] 0 :=
  .val _ _ _ _ _ _ ⟨_, rfl, .int _ _ (has64x hn)⟩ (.nil _)
theorem ok_at {f : Nat} {sg : Sig τ} {g : sg.A → Option sg.B} (h : OkE ⟨f, sg, g⟩) (x : sg.A) (r : sg.B) (hx : g x = some r) : CallOk Tryz.prog U f (encArgs sg.ps x) (sg.out r) := h x r hx
end Go.VI
namespace Go.Proofs
open Go.RowKit Go.VI
theorem Tryz.word_w (k : Int) (w : World) (hk : -9223372036854775808 ≤ k ∧ k ≤ 9223372036854775807) (henv : U.env w) (hw : U.nb ≤ w.heap.size) :
    Calls Tryz.prog 20 #[.int .i64 k] w fun e w' => e = .returned (.string ⟨⟨Go.VP.wordM k⟩⟩) ∧ Below w.heap.size w w' := by
  have h := ok_at e_text_Word_ok (k, ()) _ (Go.VP.kword_is k)
  refine (plain_calls (I := noI) h (arg1_int hk) (noI_cell w) henv hw).mono fun e w' ⟨u, he, hb, J, _, hr⟩ => ?_
  rw [ret_str hr] at he
  exact ⟨he, hb⟩
theorem Tryz.kind30_w (s : List UInt8) (w : World) (hs : s.length ≤ 1000000) (henv : U.env w) (hw : U.nb ≤ w.heap.size) :
    Calls Tryz.prog 8 #[.string ⟨⟨s⟩⟩] w fun e w' => e = .returned (.int .i64 (Go.VP.kindW s)) ∧ Below w.heap.size w w' := by
  have h := ok_at e_ref30_Kind_ok (s, ()) _ (Go.VP.kind30_is s)
  refine (plain_calls (I := noI) h (arg1_str (s := s) (show (s.length : Int) ≤ 9223372036854775807 by omega)) (noI_cell w) henv hw).mono fun e w' ⟨u, he, hb, J, _, hr⟩ => ?_
  rw [ret_int hr] at he
  exact ⟨he, hb⟩
end Go.Proofs
