/- The statement DeskApartSaid, as it is bF0, bA3 a condition of ours: for all arguments the law roadbook/roadbooklaw30.DeskApart returns true, and its arguments read afterwards as before. The walk goes by an evaluator of the bF0 bodies (VI: the texts V1 and on, proved sound there); the plain law stands in the text PureDeskApart. -/
import Derived.Test.YtjdlhgdklmkkhaaGreatRows
import Derived.Test.YtjdlhgdklmkkhaaGreatK3FOk
import Derived.Test.YtjdlhgdklmkkhaaGreatK3FGood
import Derived.Test.YtjdlhgdklmkkhaaGreatK3PureDeskApart
import Derived.WalkKit
import Derived.ProofKit
import Derived.OpenShut
import Derived.ShutString
import Derived.ChangeOld
import Derived.Below
import Derived.SizedLaws
namespace Go.Proofs.YtjdlhgdklmkkhaaGreat.deskApart
open Go Go.VI Go.ChangeShapes Go.WideShapes Go.ChangeAt Go.RowKit
set_option linter.unusedVariables false
theorem own : ownKnob Tryz.prog.godebug = none := by kernel_rfl
theorem laidOut : laidOutB Tryz.prog = true := by kernel_rfl
set_option maxHeartbeats 4000000 in
set_option maxRecDepth 100000 in
theorem lifted (os : Os) (started : os.Started) (H : Type) (enc : TypeId × Value → H) :
    ReturnsInHanded {} Tryz.checked os 4 .any (Rows.deskApartSpec.pre6 enc Tryz.prog Tryz.f4 Rows.deskApartRow.domain false) (Rows.deskApartSpec.post enc Tryz.prog Tryz.f4 false true false false) := by
  refine returnsInHanded_of_change_sized (C := Tryz.checked) own started (by kernel_rfl) Tryz.func4
    (ChangeSpec.witness6 (enc := enc) (C := Tryz.checked) false ⟨#[], #[(.slice none 0 0)], []⟩ 8 (by kernel_rfl) (by kernel_rfl) (by kernel_rfl) (by kernel_rfl)) ?_
  intro W base args ds gs before hval0 hW hcnd hsz0 _
  have hsz : (DataW.weightsEach Tryz.prog (Tryz.f4.params.toList ++ Rows.deskApartSpec.plain.varTypes Tryz.prog) (ds ++ gs)).all (· ≤ reachBytes) = true := hsz0
  have hval : ∀ (j : Nat) t v, Tryz.f4.params[j]? = some t → args[j]? = some v → Value.okWide Tryz.prog W .any base t v := hval0
  have hW' := hW
  obtain ⟨p, q, hA0, hV, rfl, hfz, hnd⟩ := hW
  have hA : DataW.TrodAll enc Tryz.prog W 0 (fun _ => true) true Tryz.f4.params.toList args.toList ds p := hA0
  rw [Tryz.params4] at hA hval hsz
  obtain ⟨v0, vs0, d0, ds0, p0, q0, hargs, rfl, rfl, h0, r0⟩ := trodAll_cons hA
  obtain ⟨rfl, rfl, rfl⟩ := trodAll_nil r0
  obtain rfl : args = #[v0] := by cases args; simp_all
  obtain ⟨rfl, rfl⟩ := trodVars_none hV
  have k0 := h0
  have lt0 : ∀ x ∈ p0, x.block < W.heap.size := by obtain ⟨m, hm⟩ := k0; exact DataW.trod_lt m _ _ _ hm
  obtain ⟨x0, ⟨y0, e0, G0⟩, V0⟩ := eJ7 (P := Tryz.prog) (U := U) (T := bj9) (t := 22) cI4 (by kernel_rfl) (hval 0 22 v0 rfl rfl) h0 (eA0 hsz (j := 0) (t := 22) rfl rfl)
  have g0 : aS8 x0 := by subst e0; exact G0
  try clear hA0 hval0 hsz0 hsz
  have HE : ax8 Tryz.prog U ⟨4, aq1, be8⟩ := cJ3
  have HR := Go.VP.deskApart_pure x0 g0
  have HA : aj7 Tryz.prog U W (IW W) (fun _ => none) (fun _ => (0, 0)) (ar2 aq1.ps (x0, ())) [v0] 0 := aj7.val _ _ _ _ _ _ V0 (aj7.nil _)
  refine (er8 HE HR rfl HA trivial (Nat.zero_le _)).mono fun e W' ⟨he, bel⟩ => ?_
  subst he
  exact ⟨_, rfl, _, _, _, [], _, [], hW', trodAll_mk1 (shut_bool Tryz.underlying4 _), (trodAll_cons_mk (Below.trod laidOut (by kernel_rfl) (of_decide_eq_true (by kernel_rfl)) k0 bel lt0) trodAll_mk0), rfl, bel.frame _, fun h => by cases h⟩
theorem ai {a b : Bool} (h : a = true) (k : b = true) : (a && b) = true := by rw [h, k]; rfl
theorem j1 : (Rows.deskApartRow.wf (OpenSpec.ofChange Rows.deskApartSpec) && laidOutB Tryz.pinned.checked.prog && mapsRowed Tryz.pinned.checked.prog && Tryz.f4.params.all (Tryz.pinned.checked.prog.readableRec ·) && namedTie Tryz.pinned.checked.prog Rows.deskApartRow.named Rows.deskApartSpec.vars && (Rows.deskApartRow.stops == []) && (Tryz.pinned.checked.prog.stops == []) && (Rows.deskApartRow.knobs == []) && (Tryz.pinned.checked.prog.stopKnobs == [])) = true := by kernel_rfl
theorem j2 : (Rows.deskApartRow.inPlace == Tryz.pinned.checked.prog.inPlace 4) = true ∧ (Rows.deskApartRow.unfollowed == Tryz.pinned.checked.prog.unfollowed 4) = true ∧ (Rows.deskApartRow.recurses == Tryz.pinned.checked.prog.recurses 4) = true ∧ (Rows.deskApartRow.named == Tryz.pinned.checked.prog.varsNamed 4) = true := ⟨by kernel_rfl, by kernel_rfl, by kernel_rfl, by kernel_rfl⟩
theorem j3 : Tryz.pinned.checked.prog.stopsHeard = true := by kernel_rfl
theorem j4 : Tryz.pinned.checked.prog.mayEnter = true := by kernel_rfl
theorem j5 : (Rows.deskApartRow.lifted == Tryz.pinned.checked.prog.liftsFinal) = true := by kernel_rfl
theorem closed : joinedFacts Tryz.pinned.checked.prog 4 Tryz.f4 Rows.deskApartSpec Rows.deskApartRow = true := (ai (ai (ai (ai (ai (ai (ai (ai (ai (ai (ai (ai (ai (ai (ai (ai (ai (ai (ai (ai (ai (ai (ai j1 j2.1) j2.2.1) j2.2.2.1) j2.2.2.2) (by kernel_rfl)) (by kernel_rfl)) (by kernel_rfl)) (by kernel_rfl)) (by kernel_rfl)) (by kernel_rfl)) (by kernel_rfl)) (by kernel_rfl)) (by kernel_rfl)) (by kernel_rfl)) (by kernel_rfl)) j3) j4) j5) (by kernel_rfl)) (by kernel_rfl)) (by kernel_rfl)) (by kernel_rfl)) (by kernel_rfl))
theorem over : Rows.deskApartRow.holds Tryz.pinned (OpenSpec.ofChange Rows.deskApartSpec) :=
  OpenClaim.holds_of_wide 4 Tryz.f4 rfl rfl rfl rfl rfl rfl rfl ⟨rfl, rfl, rfl, rfl, rfl⟩ rfl rfl rfl rfl rfl (by kernel_rfl) Tryz.func4 closed
    (of_decide_eq_true (by kernel_rfl)) (by unfold Func.isWrapper; first | (rw [if_pos (by decide +kernel)]; kernel_rfl) | (rw [if_neg (by decide +kernel)]; exact ⟨rfl, rfl⟩))
    (fun os started H enc _ => lifted os started H enc)
theorem proved : Rows.DeskApartSaid := over
end Go.Proofs.YtjdlhgdklmkkhaaGreat.deskApart
namespace Go.Proofs.YtjdlhgdklmkkhaaGreat
/-- The row, under a short name, for the claim. -/
theorem deskApart_holds : Rows.DeskApartSaid := deskApart.proved
end Go.Proofs.YtjdlhgdklmkkhaaGreat
