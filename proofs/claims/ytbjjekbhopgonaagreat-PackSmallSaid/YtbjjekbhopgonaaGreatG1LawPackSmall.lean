/- The statement PackSmallSaid, as it is given, without a condition of ours: for all arguments the law roadbook/roadbooklaw27.PackSmall returns true, and its arguments read afterwards as before. The walk goes by an evaluator of the given bodies (VI: the texts V1 and on, proved sound there); the plain law stands in the text PurePackSmall. -/
import Derived.Test.YtbjjekbhopgonaaGreatRows
import Derived.Test.YtbjjekbhopgonaaGreatG1FOk
import Derived.Test.YtbjjekbhopgonaaGreatG1FGood
import Derived.Test.YtbjjekbhopgonaaGreatG1PurePackSmall
import Derived.WalkKit
import Derived.ProofKit
import Derived.OpenShut
import Derived.ShutString
import Derived.ChangeOld
import Derived.Below
import Derived.SizedLaws
namespace Go.Proofs.YtbjjekbhopgonaaGreat.packSmall
open Go Go.VI Go.ChangeShapes Go.WideShapes Go.ChangeAt Go.RowKit
set_option linter.unusedVariables false
theorem own : ownKnob Tryz.prog.godebug = none := by kernel_rfl
theorem laidOut : laidOutB Tryz.prog = true := by kernel_rfl
set_option maxHeartbeats 4000000 in
set_option maxRecDepth 100000 in
theorem lifted (os : Os) (started : os.Started) (H : Type) (enc : TypeId × Value → H) :
    ReturnsInHanded {} Tryz.checked os 9 .any (Rows.packSmallSpec.pre6 enc Tryz.prog Tryz.f9 Rows.packSmallRow.domain false) (Rows.packSmallSpec.post enc Tryz.prog Tryz.f9 false true false false) := by
  refine returnsInHanded_of_change_sized (C := Tryz.checked) own started (by kernel_rfl) Tryz.func9
    (ChangeSpec.witness6 (enc := enc) (C := Tryz.checked) false ⟨#[], #[(.agg #[(.int .u8 0), (.slice none 0 0), (.int .u16 0), (.int .u8 0)])], []⟩ 8 (by kernel_rfl) (by kernel_rfl) (by kernel_rfl) (by kernel_rfl)) ?_
  intro W base args ds gs before hval0 hW hcnd hsz0 _
  have hsz : (DataW.weightsEach Tryz.prog (Tryz.f9.params.toList ++ Rows.packSmallSpec.plain.varTypes Tryz.prog) (ds ++ gs)).all (· ≤ reachBytes) = true := hsz0
  have hval : ∀ (j : Nat) t v, Tryz.f9.params[j]? = some t → args[j]? = some v → Value.okWide Tryz.prog W .any base t v := hval0
  have hW' := hW
  obtain ⟨p, q, hA0, hV, rfl, hfz, hnd⟩ := hW
  have hA : DataW.TrodAll enc Tryz.prog W 0 (fun _ => true) true Tryz.f9.params.toList args.toList ds p := hA0
  rw [Tryz.params9] at hA hval hsz
  obtain ⟨v0, vs0, d0, ds0, p0, q0, hargs, rfl, rfl, h0, r0⟩ := trodAll_cons hA
  obtain ⟨rfl, rfl, rfl⟩ := trodAll_nil r0
  obtain rfl : args = #[v0] := by cases args; simp_all
  obtain ⟨rfl, rfl⟩ := trodVars_none hV
  have k0 := h0
  have lt0 : ∀ x ∈ p0, x.block < W.heap.size := by obtain ⟨m, hm⟩ := k0; exact DataW.trod_lt m _ _ _ hm
  obtain ⟨x0, ⟨y0, e0, G0⟩, V0⟩ := arg_open (P := Tryz.prog) (U := U) (T := T_law27_Room) (t := 49) opens_law27_Room (by kernel_rfl) (hval 0 49 v0 rfl rfl) h0 (sized_arg hsz (j := 0) (t := 49) rfl rfl)
  have g0 : Good_law27_Room x0 := by subst e0; exact G0
  try clear hA0 hval0 hsz0 hsz
  have HE : EntOk Tryz.prog U ⟨9, sg_law27_PackSmall, g_law27_PackSmall⟩ := e_law27_PackSmall_ok
  have HR := Go.VP.packSmall_pure x0 g0
  have HA : ArgsRel Tryz.prog U W (IW W) (fun _ => none) (fun _ => (0, 0)) (encArgs sg_law27_PackSmall.ps (x0, ())) [v0] 0 := ArgsRel.val _ _ _ _ _ _ V0 (ArgsRel.nil _)
  refine (law_calls2 HE HR rfl HA).mono fun e W' ⟨he, bel⟩ => ?_
  subst he
  exact ⟨_, rfl, _, _, _, [], _, [], hW', trodAll_mk1 (shut_bool Tryz.underlying4 _), (trodAll_cons_mk (Below.trod laidOut (by kernel_rfl) (of_decide_eq_true (by kernel_rfl)) k0 bel lt0) trodAll_mk0), rfl, bel.frame _, fun h => by cases h⟩
theorem ai {a b : Bool} (h : a = true) (k : b = true) : (a && b) = true := by rw [h, k]; rfl
theorem j1 : (Rows.packSmallRow.wf (OpenSpec.ofChange Rows.packSmallSpec) && laidOutB Tryz.pinned.checked.prog && mapsRowed Tryz.pinned.checked.prog && Tryz.f9.params.all (Tryz.pinned.checked.prog.readableRec ·) && namedTie Tryz.pinned.checked.prog Rows.packSmallRow.named Rows.packSmallSpec.vars && (Rows.packSmallRow.stops == []) && (Tryz.pinned.checked.prog.stops == []) && (Rows.packSmallRow.knobs == []) && (Tryz.pinned.checked.prog.stopKnobs == [])) = true := by kernel_rfl
theorem j2 : (Rows.packSmallRow.inPlace == Tryz.pinned.checked.prog.inPlace 9) = true ∧ (Rows.packSmallRow.unfollowed == Tryz.pinned.checked.prog.unfollowed 9) = true ∧ (Rows.packSmallRow.recurses == Tryz.pinned.checked.prog.recurses 9) = true ∧ (Rows.packSmallRow.named == Tryz.pinned.checked.prog.varsNamed 9) = true := ⟨by kernel_rfl, by kernel_rfl, by kernel_rfl, by kernel_rfl⟩
theorem j3 : Tryz.pinned.checked.prog.stopsHeard = true := by kernel_rfl
theorem j4 : Tryz.pinned.checked.prog.mayEnter = true := by kernel_rfl
theorem j5 : (Rows.packSmallRow.lifted == Tryz.pinned.checked.prog.liftsFinal) = true := by kernel_rfl
theorem closed : joinedFacts Tryz.pinned.checked.prog 9 Tryz.f9 Rows.packSmallSpec Rows.packSmallRow = true := (ai (ai (ai (ai (ai (ai (ai (ai (ai (ai (ai (ai (ai (ai (ai (ai (ai (ai (ai (ai (ai (ai (ai j1 j2.1) j2.2.1) j2.2.2.1) j2.2.2.2) (by kernel_rfl)) (by kernel_rfl)) (by kernel_rfl)) (by kernel_rfl)) (by kernel_rfl)) (by kernel_rfl)) (by kernel_rfl)) (by kernel_rfl)) (by kernel_rfl)) (by kernel_rfl)) (by kernel_rfl)) j3) j4) j5) (by kernel_rfl)) (by kernel_rfl)) (by kernel_rfl)) (by kernel_rfl)) (by kernel_rfl))
theorem over : Rows.packSmallRow.holds Tryz.pinned (OpenSpec.ofChange Rows.packSmallSpec) :=
  OpenClaim.holds_of_wide 9 Tryz.f9 rfl rfl rfl rfl rfl rfl rfl ⟨rfl, rfl, rfl, rfl, rfl⟩ rfl rfl rfl rfl rfl (by kernel_rfl) Tryz.func9 closed
    (of_decide_eq_true (by kernel_rfl)) (by unfold Func.isWrapper; first | (rw [if_pos (by decide +kernel)]; kernel_rfl) | (rw [if_neg (by decide +kernel)]; exact ⟨rfl, rfl⟩))
    (fun os started H enc _ => lifted os started H enc)
theorem proved : Rows.PackSmallSaid := over
end Go.Proofs.YtbjjekbhopgonaaGreat.packSmall
namespace Go.Proofs.YtbjjekbhopgonaaGreat
/-- The row, under a short name, for the claim. -/
theorem packSmall_holds : Rows.PackSmallSaid := packSmall.proved
end Go.Proofs.YtbjjekbhopgonaaGreat
