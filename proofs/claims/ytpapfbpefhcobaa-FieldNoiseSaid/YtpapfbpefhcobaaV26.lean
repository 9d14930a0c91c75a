import Derived.Test.YtpapfbpefhcobaaV25
/-! Last words for the functions' texts. -/
set_option linter.unusedVariables false
namespace Go.VI
open Go Go.RowKit Go.ChangeShapes Go.WideShapes

section
variable {P : Program} {U : Univ}

noncomputable def finOf (P : Program) (fn : Func) (m : Nat) (s : Sig U.τ) : St U → Option s.B := fun st => match outOf P fn.results.toList m st with | some o => s.decOut o | none => none

theorem callable {f : Nat} {fn : Func} (hf : P.funcs[f]? = some fn) (h : (fn.name == "runtime.NumGoroutine") = false) (hb : fn.body.isNone = false) : ∀ (vs : Array Value) w, (callFunc f vs).run P w = .ok (.enter f vs) w := by
  intro vs w
  have h1 : ¬ fn.name = "runtime.NumGoroutine" := by simpa using h
  have h2 : ¬ fn.body = none := fun he => by rw [he] at hb; cases hb
  simp [callFunc, hf, h1, h2]

/-- A law that says true, its parts by themselves. -/
theorem law_calls2 {f : Nat} {s : Sig U.τ} {G : s.A → Option s.B} (he : EntOk P U ⟨f, s, G⟩) {x : s.A} {vs : List Value} {w : World} {r : s.B} (hr : G x = some r) (ho : s.out r = ⟨.one (.bool true), []⟩) (ha : ArgsRel P U w (IW w) (fun _ => none) (fun _ => (0, 0)) (encArgs s.ps x) vs 0) :
    Calls P f vs.toArray w fun ed w' => ed = .returned (.bool true) ∧ Below w.heap.size w w' := by
  exact law_calls (e := ⟨f, s, G⟩) he (T := ⟨Bool, false, [.bool], fun x => (x, ()), fun y => y.1, fun _ => rfl, .inr ⟨_, rfl⟩⟩) hr ho ha

end
end Go.VI
