/- The statement DeskPlaysSaid, as it is nL, pZ a condition of ours: for all arguments the law roadbook/roadbooklaw30.DeskPlays returns true, and its arguments read afterwards as before. The walk goes by an evaluator of the nL bodies (VI: the texts V1 and on, proved sound there); the plain law stands in the text PureDeskPlays. -/
import Derived.Test.YtjdlhgdklmkkhaaGreatRows
import Derived.Test.YtjdlhgdklmkkhaaGreatSpFOk
import Derived.Test.YtjdlhgdklmkkhaaGreatSpFGood
import Derived.Test.YtjdlhgdklmkkhaaGreatSpPureDeskPlays
import Derived.WalkKit
import Derived.ProofKit
import Derived.OpenShut
import Derived.ShutString
import Derived.ChangeOld
import Derived.Below
import Derived.SizedLaws
namespace Go.Proofs.YtjdlhgdklmkkhaaGreat.deskPlays
open Go Go.VI Go.ChangeShapes Go.WideShapes Go.ChangeAt Go.RowKit
set_option linter.unusedVariables false
theorem own : ownKnob Tryz.prog.godebug = none := by kernel_rfl
theorem laidOut : laidOutB Tryz.prog = true := by kernel_rfl
set_option maxHeartbeats 4000000 in
set_option maxRecDepth 100000 in
theorem lifted (os : Os) (started : os.Started) (H : Type) (enc : TypeId × Value → H) :
    ReturnsInHanded {} Tryz.checked os 3 .any (Rows.deskPlaysSpec.pre6 enc Tryz.prog Tryz.f3 Rows.deskPlaysRow.domain false) (Rows.deskPlaysSpec.post enc Tryz.prog Tryz.f3 false true false false) := by
  refine returnsInHanded_of_change_sized (C := Tryz.checked) own started (by kernel_rfl) Tryz.func3
    (ChangeSpec.witness6 (enc := enc) (C := Tryz.checked) false ⟨#[], #[(.slice none 0 0), (.int .u8 0)], []⟩ 8 (by kernel_rfl) (by kernel_rfl) (by kernel_rfl) (by kernel_rfl)) ?_
  intro W base args ds gs before hval0 hW hcnd hsz0 _
  have hsz : (DataW.weightsEach Tryz.prog (Tryz.f3.params.toList ++ Rows.deskPlaysSpec.plain.varTypes Tryz.prog) (ds ++ gs)).all (· ≤ reachBytes) = true := hsz0
  have hval : ∀ (j : Nat) t v, Tryz.f3.params[j]? = some t → args[j]? = some v → Value.okWide Tryz.prog W .any base t v := hval0
  have hW' := hW
  obtain ⟨p, q, hA0, hV, rfl, hfz, hnd⟩ := hW
  have hA : DataW.TrodAll enc Tryz.prog W 0 (fun _ => true) true Tryz.f3.params.toList args.toList ds p := hA0
  rw [Tryz.params3] at hA hval hsz
  obtain ⟨v0, vs0, d0, ds0, p0, q0, hargs, rfl, rfl, h0, r0⟩ := trodAll_cons hA
  obtain ⟨v1, vs1, d1, ds1, p1, q1, rfl, rfl, rfl, h1, r1⟩ := trodAll_cons r0
  obtain ⟨rfl, rfl, rfl⟩ := trodAll_nil r1
  obtain rfl : args = #[v0, v1] := by cases args; simp_all
  obtain ⟨rfl, rfl⟩ := trodVars_none hV
  have k0 := h0
  have lt0 : ∀ x ∈ p0, x.block < W.heap.size := by obtain ⟨m, hm⟩ := k0; exact DataW.trod_lt m _ _ _ hm
  obtain ⟨x0, ⟨y0, e0, G0⟩, V0⟩ := eY1 (P := Tryz.prog) (U := U) (T := Df) (t := 22) dd2 (by kernel_rfl) (hval 0 22 v0 rfl rfl) h0 (eJ2 hsz (j := 0) (t := 22) rfl rfl)
  have g0 : UM x0 := by subst e0; exact G0
  have k1 := h1
  have lt1 : ∀ x ∈ p1, x.block < W.heap.size := by obtain ⟨m, hm⟩ := k1; exact DataW.trod_lt m _ _ _ hm
  obtain ⟨x1, ⟨y1, e1, G1⟩, V1⟩ := eY1 (P := Tryz.prog) (U := U) (T := SM) (t := 5) (cH.int (g := gE) Tryz.underlying5 (by kernel_rfl)) (by kernel_rfl) (hval 1 5 v1 rfl rfl) h1 (eJ2 hsz (j := 1) (t := 5) rfl rfl)
  have g1 : en1 x1 := by subst e1; exact G1
  try clear hA0 hval0 hsz0 hsz
  have HE : gg Tryz.prog U ⟨3, xv, JO⟩ := de3
  have HR := Go.VP.deskPlays_pure x0 g0 x1 g1
  have HA : fR Tryz.prog U W (IW W) (fun _ => none) (fun _ => (0, 0)) (iM xv.ps (x0, x1, ())) [v0, v1] 0 := fR.val _ _ _ _ _ _ V0 (fR.val _ _ _ _ _ _ V1 (fR.nil _))
  refine (fm9 HE HR rfl HA trivial (Nat.zero_le _)).mono fun e W' ⟨he, bel⟩ => ?_
  subst he
  exact ⟨_, rfl, _, _, _, [], _, [], hW', trodAll_mk1 (shut_bool Tryz.underlying4 _), (trodAll_cons_mk (Below.trod laidOut (by kernel_rfl) (of_decide_eq_true (by kernel_rfl)) k0 bel lt0) (trodAll_cons_mk (Below.trod laidOut (by kernel_rfl) (of_decide_eq_true (by kernel_rfl)) k1 bel lt1) trodAll_mk0)), rfl, bel.frame _, fun h => by cases h⟩
theorem ai {a b : Bool} (h : a = true) (k : b = true) : (a && b) = true := by rw [h, k]; rfl
theorem j1 : (Rows.deskPlaysRow.wf (OpenSpec.ofChange Rows.deskPlaysSpec) && laidOutB Tryz.pinned.checked.prog && mapsRowed Tryz.pinned.checked.prog && Tryz.f3.params.all (Tryz.pinned.checked.prog.readableRec ·) && namedTie Tryz.pinned.checked.prog Rows.deskPlaysRow.named Rows.deskPlaysSpec.vars && (Rows.deskPlaysRow.stops == []) && (Tryz.pinned.checked.prog.stops == []) && (Rows.deskPlaysRow.knobs == []) && (Tryz.pinned.checked.prog.stopKnobs == [])) = true := by kernel_rfl
theorem j2 : (Rows.deskPlaysRow.inPlace == Tryz.pinned.checked.prog.inPlace 3) = true ∧ (Rows.deskPlaysRow.unfollowed == Tryz.pinned.checked.prog.unfollowed 3) = true ∧ (Rows.deskPlaysRow.recurses == Tryz.pinned.checked.prog.recurses 3) = true ∧ (Rows.deskPlaysRow.named == Tryz.pinned.checked.prog.varsNamed 3) = true := ⟨by kernel_rfl, by kernel_rfl, by kernel_rfl, by kernel_rfl⟩
theorem j3 : Tryz.pinned.checked.prog.stopsHeard = true := by kernel_rfl
theorem j4 : Tryz.pinned.checked.prog.mayEnter = true := by kernel_rfl
theorem j5 : (Rows.deskPlaysRow.lifted == Tryz.pinned.checked.prog.liftsFinal) = true := by kernel_rfl
theorem closed : joinedFacts Tryz.pinned.checked.prog 3 Tryz.f3 Rows.deskPlaysSpec Rows.deskPlaysRow = true := (ai (ai (ai (ai (ai (ai (ai (ai (ai (ai (ai (ai (ai (ai (ai (ai (ai (ai (ai (ai (ai (ai (ai j1 j2.1) j2.2.1) j2.2.2.1) j2.2.2.2) (by kernel_rfl)) (by kernel_rfl)) (by kernel_rfl)) (by kernel_rfl)) (by kernel_rfl)) (by kernel_rfl)) (by kernel_rfl)) (by kernel_rfl)) (by kernel_rfl)) (by kernel_rfl)) (by kernel_rfl)) j3) j4) j5) (by kernel_rfl)) (by kernel_rfl)) (by kernel_rfl)) (by kernel_rfl)) (by kernel_rfl))
theorem over : Rows.deskPlaysRow.holds Tryz.pinned (OpenSpec.ofChange Rows.deskPlaysSpec) :=
  OpenClaim.holds_of_wide 3 Tryz.f3 rfl rfl rfl rfl rfl rfl rfl ⟨rfl, rfl, rfl, rfl, rfl⟩ rfl rfl rfl rfl rfl (by kernel_rfl) Tryz.func3 closed
    (of_decide_eq_true (by kernel_rfl)) (by unfold Func.isWrapper; first | (rw [if_pos (by decide +kernel)]; kernel_rfl) | (rw [if_neg (by decide +kernel)]; exact ⟨rfl, rfl⟩))
    (fun os started H enc _ => lifted os started H enc)
theorem proved : Rows.DeskPlaysSaid := over
end Go.Proofs.YtjdlhgdklmkkhaaGreat.deskPlays
namespace Go.Proofs.YtjdlhgdklmkkhaaGreat
/-- The row, under a short name, for the claim. -/
theorem deskPlays_holds : Rows.DeskPlaysSaid := deskPlays.proved
end Go.Proofs.YtjdlhgdklmkkhaaGreat
