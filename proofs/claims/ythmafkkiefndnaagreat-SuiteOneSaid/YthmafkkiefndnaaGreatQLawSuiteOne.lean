/- The statement SuiteOneSaid, as it is given, without a condition of ours: for all arguments the law roadbook/roadbooklaw26.SuiteOne returns true, and its arguments read afterwards as before. The walk goes by an evaluator of the given bodies (VI: the texts V1 and on, proved sound there); the plain law stands in the text PureSuiteOne. -/
import Derived.Test.YthmafkkiefndnaaGreatRows
import Derived.Test.YthmafkkiefndnaaGreatQFOk
import Derived.Test.YthmafkkiefndnaaGreatQFGood
import Derived.Test.YthmafkkiefndnaaGreatQPureSuiteOne
import Derived.WalkKit
import Derived.ProofKit
import Derived.OpenShut
import Derived.ShutString
import Derived.ChangeOld
import Derived.Below
import Derived.SizedLaws
namespace Go.Proofs.YthmafkkiefndnaaGreat.suiteOne
open Go Go.VI Go.ChangeShapes Go.WideShapes Go.ChangeAt Go.RowKit
set_option linter.unusedVariables false
theorem own : ownKnob Tryz.prog.godebug = none := by kernel_rfl
theorem laidOut : laidOutB Tryz.prog = true := by kernel_rfl
set_option maxHeartbeats 4000000 in
set_option maxRecDepth 100000 in
theorem lifted (os : Os) (started : os.Started) (H : Type) (enc : TypeId × Value → H) :
    ReturnsInHanded {} Tryz.checked os 6 .any (Rows.suiteOneSpec.pre6 enc Tryz.prog Tryz.f6 Rows.suiteOneRow.domain false) (Rows.suiteOneSpec.post enc Tryz.prog Tryz.f6 false true false false) := by
  refine returnsInHanded_of_change_sized (C := Tryz.checked) own started (by kernel_rfl) Tryz.func6
    (ChangeSpec.witness6 (enc := enc) (C := Tryz.checked) false ⟨#[], #[(.agg #[(.int .i64 0), (.int .i64 0), (.int .i64 0), (.string ⟨#[]⟩), (.int .i64 0), (.int .i64 0), (.string ⟨#[]⟩), (.int .i64 0), (.int .i64 0), (.string ⟨#[]⟩), (.int .i64 0), (.string ⟨#[]⟩), (.int .i64 0), (.int .i64 0), (.int .i64 0), (.int .i64 0), (.int .i64 0), (.int .i64 0), (.int .i64 0), (.string ⟨#[]⟩), (.string ⟨#[]⟩), (.slice none 0 0), (.int .i64 0), (.string ⟨#[]⟩), (.slice none 0 0)])], []⟩ 8 (by kernel_rfl) (by kernel_rfl) (by kernel_rfl) (by kernel_rfl)) ?_
  intro W base args ds gs before hval0 hW hcnd hsz0 _
  have hsz : (DataW.weightsEach Tryz.prog (Tryz.f6.params.toList ++ Rows.suiteOneSpec.plain.varTypes Tryz.prog) (ds ++ gs)).all (· ≤ reachBytes) = true := hsz0
  have hval : ∀ (j : Nat) t v, Tryz.f6.params[j]? = some t → args[j]? = some v → Value.okWide Tryz.prog W .any base t v := hval0
  have hW' := hW
  obtain ⟨p, q, hA0, hV, rfl, hfz, hnd⟩ := hW
  have hA : DataW.TrodAll enc Tryz.prog W 0 (fun _ => true) true Tryz.f6.params.toList args.toList ds p := hA0
  rw [Tryz.params6] at hA hval hsz
  obtain ⟨v0, vs0, d0, ds0, p0, q0, hargs, rfl, rfl, h0, r0⟩ := trodAll_cons hA
  obtain ⟨rfl, rfl, rfl⟩ := trodAll_nil r0
  obtain rfl : args = #[v0] := by cases args; simp_all
  obtain ⟨rfl, rfl⟩ := trodVars_none hV
  have k0 := h0
  have lt0 : ∀ x ∈ p0, x.block < W.heap.size := by obtain ⟨m, hm⟩ := k0; exact DataW.trod_lt m _ _ _ hm
  obtain ⟨x0, ⟨y0, e0, G0⟩, V0⟩ := arg_open (P := Tryz.prog) (U := U) (T := T_api_Msg) (t := 29) opens_api_Msg (by kernel_rfl) (hval 0 29 v0 rfl rfl) h0 (sized_arg hsz (j := 0) (t := 29) rfl rfl)
  have g0 : Good_api_Msg x0 := by subst e0; exact G0
  try clear hA0 hval0 hsz0 hsz
  have HE : EntOk Tryz.prog U ⟨6, sg_law26_SuiteOne, g_law26_SuiteOne⟩ := e_law26_SuiteOne_ok
  have HR := Go.VP.suiteOne_pure x0 g0
  have HA : ArgsRel Tryz.prog U W (IW W) (fun _ => none) (fun _ => (0, 0)) (encArgs sg_law26_SuiteOne.ps (x0, ())) [v0] 0 := ArgsRel.val _ _ _ _ _ _ V0 (ArgsRel.nil _)
  refine (law_calls2 HE HR rfl HA).mono fun e W' ⟨he, bel⟩ => ?_
  subst he
  exact ⟨_, rfl, _, _, _, [], _, [], hW', trodAll_mk1 (shut_bool Tryz.underlying4 _), (trodAll_cons_mk (Below.trod laidOut (by kernel_rfl) (of_decide_eq_true (by kernel_rfl)) k0 bel lt0) trodAll_mk0), rfl, bel.frame _, fun h => by cases h⟩
theorem over : Rows.suiteOneRow.holds Tryz.pinned (OpenSpec.ofChange Rows.suiteOneSpec) :=
  OpenClaim.holds_of_wide 6 Tryz.f6 rfl rfl rfl rfl rfl rfl rfl ⟨rfl, rfl, rfl, rfl, rfl⟩ rfl rfl rfl rfl rfl (by kernel_rfl) Tryz.func6 (by kernel_rfl)
    (of_decide_eq_true (by kernel_rfl)) (by unfold Func.isWrapper; first | (rw [if_pos (by decide +kernel)]; kernel_rfl) | (rw [if_neg (by decide +kernel)]; exact ⟨rfl, rfl⟩))
    (fun os started H enc _ => lifted os started H enc)
theorem proved : Rows.SuiteOneSaid := over
end Go.Proofs.YthmafkkiefndnaaGreat.suiteOne
namespace Go.Proofs.YthmafkkiefndnaaGreat
/-- The row, under a short name, for the claim. -/
theorem suiteOne_holds : Rows.SuiteOneSaid := suiteOne.proved
end Go.Proofs.YthmafkkiefndnaaGreat
