/- The statement WholeDeskSaid, as it is given, without a condition of ours: for all arguments the law roadbook/roadbooktop.WholeDesk returns true, and its arguments read afterwards as before. The walk goes by an evaluator of the given bodies (VI: the texts V1 and on, proved sound there); the plain law stands in the text PureWholeDesk. -/
import Derived.Test.YtjdlhgdklmkkhaaGreatRows
import Derived.Test.YtjdlhgdklmkkhaaGreatG1FOk
import Derived.Test.YtjdlhgdklmkkhaaGreatG1FGood
import Derived.Test.YtjdlhgdklmkkhaaGreatG1PureWholeDesk
import Derived.WalkKit
import Derived.ProofKit
import Derived.OpenShut
import Derived.ShutString
import Derived.ChangeOld
import Derived.Below
import Derived.SizedLaws
namespace Go.Proofs.YtjdlhgdklmkkhaaGreat.wholeDesk
open Go Go.VI Go.ChangeShapes Go.WideShapes Go.ChangeAt Go.RowKit
set_option linter.unusedVariables false
theorem own : ownKnob Tryz.prog.godebug = none := by kernel_rfl
theorem laidOut : laidOutB Tryz.prog = true := by kernel_rfl
set_option maxHeartbeats 4000000 in
set_option maxRecDepth 100000 in
theorem lifted (os : Os) (started : os.Started) (H : Type) (enc : TypeId × Value → H) :
    ReturnsInHanded {} Tryz.checked os 5 .any (Rows.wholeDeskSpec.pre6 enc Tryz.prog Tryz.f5 Rows.wholeDeskRow.domain false) (Rows.wholeDeskSpec.post enc Tryz.prog Tryz.f5 false true false false) := by
  refine returnsInHanded_of_change_sized (C := Tryz.checked) own started (by kernel_rfl) Tryz.func5
    (ChangeSpec.witness6 (enc := enc) (C := Tryz.checked) false ⟨#[], #[(.int .u8 0), (.slice none 0 0), (.int .u16 0)], []⟩ 8 (by kernel_rfl) (by kernel_rfl) (by kernel_rfl) (by kernel_rfl)) ?_
  intro W base args ds gs before hval0 hW hcnd hsz0 _
  have hsz : (DataW.weightsEach Tryz.prog (Tryz.f5.params.toList ++ Rows.wholeDeskSpec.plain.varTypes Tryz.prog) (ds ++ gs)).all (· ≤ reachBytes) = true := hsz0
  have hval : ∀ (j : Nat) t v, Tryz.f5.params[j]? = some t → args[j]? = some v → Value.okWide Tryz.prog W .any base t v := hval0
  have hW' := hW
  obtain ⟨p, q, hA0, hV, rfl, hfz, hnd⟩ := hW
  have hA : DataW.TrodAll enc Tryz.prog W 0 (fun _ => true) true Tryz.f5.params.toList args.toList ds p := hA0
  rw [Tryz.params5] at hA hval hsz
  obtain ⟨v0, vs0, d0, ds0, p0, q0, hargs, rfl, rfl, h0, r0⟩ := trodAll_cons hA
  obtain ⟨v1, vs1, d1, ds1, p1, q1, rfl, rfl, rfl, h1, r1⟩ := trodAll_cons r0
  obtain ⟨v2, vs2, d2, ds2, p2, q2, rfl, rfl, rfl, h2, r2⟩ := trodAll_cons r1
  obtain ⟨rfl, rfl, rfl⟩ := trodAll_nil r2
  obtain rfl : args = #[v0, v1, v2] := by cases args; simp_all
  obtain ⟨rfl, rfl⟩ := trodVars_none hV
  have k0 := h0
  have lt0 : ∀ x ∈ p0, x.block < W.heap.size := by obtain ⟨m, hm⟩ := k0; exact DataW.trod_lt m _ _ _ hm
  obtain ⟨x0, ⟨y0, e0, G0⟩, V0⟩ := arg_open (P := Tryz.prog) (U := U) (T := T_uint8) (t := 5) (Opens.int (g := gE) Tryz.underlying5 (by kernel_rfl)) (by kernel_rfl) (hval 0 5 v0 rfl rfl) h0 (sized_arg hsz (j := 0) (t := 5) rfl rfl)
  have g0 : Good_uint8 x0 := by subst e0; exact G0
  have k1 := h1
  have lt1 : ∀ x ∈ p1, x.block < W.heap.size := by obtain ⟨m, hm⟩ := k1; exact DataW.trod_lt m _ _ _ hm
  obtain ⟨x1, ⟨y1, e1, G1⟩, V1⟩ := arg_open (P := Tryz.prog) (U := U) (T := T_list_api_Msg) (t := 32) opens_list_api_Msg (by kernel_rfl) (hval 1 32 v1 rfl rfl) h1 (sized_arg hsz (j := 1) (t := 32) rfl rfl)
  have g1 : Good_list_api_Msg x1 := by subst e1; exact G1
  have k2 := h2
  have lt2 : ∀ x ∈ p2, x.block < W.heap.size := by obtain ⟨m, hm⟩ := k2; exact DataW.trod_lt m _ _ _ hm
  obtain ⟨x2, ⟨y2, e2, G2⟩, V2⟩ := arg_open (P := Tryz.prog) (U := U) (T := T_uint16) (t := 43) (Opens.int (g := gE) Tryz.underlying43 (by kernel_rfl)) (by kernel_rfl) (hval 2 43 v2 rfl rfl) h2 (sized_arg hsz (j := 2) (t := 43) rfl rfl)
  have g2 : Good_uint16 x2 := by subst e2; exact G2
  try clear hA0 hval0 hsz0 hsz
  have HE : EntOk Tryz.prog U ⟨5, sg_top_WholeDesk, g_top_WholeDesk⟩ := e_top_WholeDesk_ok
  have HR := Go.VP.wholeDesk_pure x0 g0 x1 g1 x2 g2
  have HA : ArgsRel Tryz.prog U W (IW W) (fun _ => none) (fun _ => (0, 0)) (encArgs sg_top_WholeDesk.ps (x0, x1, x2, ())) [v0, v1, v2] 0 := ArgsRel.val _ _ _ _ _ _ V0 (ArgsRel.val _ _ _ _ _ _ V1 (ArgsRel.val _ _ _ _ _ _ V2 (ArgsRel.nil _)))
  refine (law_calls2 HE HR rfl HA trivial (Nat.zero_le _)).mono fun e W' ⟨he, bel⟩ => ?_
  subst he
  exact ⟨_, rfl, _, _, _, [], _, [], hW', trodAll_mk1 (shut_bool Tryz.underlying4 _), (trodAll_cons_mk (Below.trod laidOut (by kernel_rfl) (of_decide_eq_true (by kernel_rfl)) k0 bel lt0) (trodAll_cons_mk (Below.trod laidOut (by kernel_rfl) (of_decide_eq_true (by kernel_rfl)) k1 bel lt1) (trodAll_cons_mk (Below.trod laidOut (by kernel_rfl) (of_decide_eq_true (by kernel_rfl)) k2 bel lt2) trodAll_mk0))), rfl, bel.frame _, fun h => by cases h⟩
theorem ai {a b : Bool} (h : a = true) (k : b = true) : (a && b) = true := by rw [h, k]; rfl
theorem j1 : (Rows.wholeDeskRow.wf (OpenSpec.ofChange Rows.wholeDeskSpec) && laidOutB Tryz.pinned.checked.prog && mapsRowed Tryz.pinned.checked.prog && Tryz.f5.params.all (Tryz.pinned.checked.prog.readableRec ·) && namedTie Tryz.pinned.checked.prog Rows.wholeDeskRow.named Rows.wholeDeskSpec.vars && (Rows.wholeDeskRow.stops == []) && (Tryz.pinned.checked.prog.stops == []) && (Rows.wholeDeskRow.knobs == []) && (Tryz.pinned.checked.prog.stopKnobs == [])) = true := by kernel_rfl
theorem j2 : (Rows.wholeDeskRow.inPlace == Tryz.pinned.checked.prog.inPlace 5) = true ∧ (Rows.wholeDeskRow.unfollowed == Tryz.pinned.checked.prog.unfollowed 5) = true ∧ (Rows.wholeDeskRow.recurses == Tryz.pinned.checked.prog.recurses 5) = true ∧ (Rows.wholeDeskRow.named == Tryz.pinned.checked.prog.varsNamed 5) = true := ⟨by kernel_rfl, by kernel_rfl, by kernel_rfl, by kernel_rfl⟩
theorem j3 : Tryz.pinned.checked.prog.stopsHeard = true := by kernel_rfl
theorem j4 : Tryz.pinned.checked.prog.mayEnter = true := by kernel_rfl
theorem j5 : (Rows.wholeDeskRow.lifted == Tryz.pinned.checked.prog.liftsFinal) = true := by kernel_rfl
theorem closed : joinedFacts Tryz.pinned.checked.prog 5 Tryz.f5 Rows.wholeDeskSpec Rows.wholeDeskRow = true := (ai (ai (ai (ai (ai (ai (ai (ai (ai (ai (ai (ai (ai (ai (ai (ai (ai (ai (ai (ai (ai (ai (ai j1 j2.1) j2.2.1) j2.2.2.1) j2.2.2.2) (by kernel_rfl)) (by kernel_rfl)) (by kernel_rfl)) (by kernel_rfl)) (by kernel_rfl)) (by kernel_rfl)) (by kernel_rfl)) (by kernel_rfl)) (by kernel_rfl)) (by kernel_rfl)) (by kernel_rfl)) j3) j4) j5) (by kernel_rfl)) (by kernel_rfl)) (by kernel_rfl)) (by kernel_rfl)) (by kernel_rfl))
theorem over : Rows.wholeDeskRow.holds Tryz.pinned (OpenSpec.ofChange Rows.wholeDeskSpec) :=
  OpenClaim.holds_of_wide 5 Tryz.f5 rfl rfl rfl rfl rfl rfl rfl ⟨rfl, rfl, rfl, rfl, rfl⟩ rfl rfl rfl rfl rfl (by kernel_rfl) Tryz.func5 closed
    (of_decide_eq_true (by kernel_rfl)) (by unfold Func.isWrapper; first | (rw [if_pos (by decide +kernel)]; kernel_rfl) | (rw [if_neg (by decide +kernel)]; exact ⟨rfl, rfl⟩))
    (fun os started H enc _ => lifted os started H enc)
theorem proved : Rows.WholeDeskSaid := over
end Go.Proofs.YtjdlhgdklmkkhaaGreat.wholeDesk
namespace Go.Proofs.YtjdlhgdklmkkhaaGreat
/-- The row, under a short name, for the claim. -/
theorem wholeDesk_holds : Rows.WholeDeskSaid := wholeDesk.proved
end Go.Proofs.YtjdlhgdklmkkhaaGreat
