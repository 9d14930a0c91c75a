/- The statement WholeTextSaid, as it is bx0, bs2 a condition of ours: for all arguments the law roadbook/roadbooktop.WholeText returns true, and its arguments read afterwards as before. The walk goes by an evaluator of the bx0 bodies (VI: the texts V1 and on, proved sound dL2); the plain law stands in the text PureWholeText. -/
import Derived.Test.YtngopicaeoapnaaGreatDoorRows
import Derived.Test.YtngopicaeoapnaaGreatDoorKFOk
import Derived.Test.YtngopicaeoapnaaGreatDoorKFGood
import Derived.Test.YtngopicaeoapnaaGreatDoorKPureWholeText
import Derived.WalkKit
import Derived.ProofKit
import Derived.OpenShut
import Derived.ShutString
import Derived.ChangeOld
import Derived.Below
import Derived.SizedLaws
import Derived.Lay
import Derived.Handed
import Derived.SevenTiedAt
import Derived.Stop.Joined
import Derived.Test.YtngopicaeoapnaaGreatDoorKXEnv
import Derived.Test.YtngopicaeoapnaaGreatDoorCards
import Derived.Test.YtngopicaeoapnaaGreatDoorTie
namespace Go.Proofs.YtngopicaeoapnaaGreatDoor.wholeText
open Go Go.VI Go.ChangeShapes Go.WideShapes Go.ChangeAt Go.RowKit
set_option linter.unusedVariables false
theorem own : ownKnob Tryz.prog.godebug = none := by kernel_rfl
theorem laidOut : laidOutB Tryz.prog = true := by kernel_rfl
set_option maxHeartbeats 4000000 in
set_option maxRecDepth 100000 in
theorem lifted (os : Os) (started : os.Started) (H : Type) (enc : TypeId × Value → H) :
    ReturnsInHanded {} Tryz.checked os 3 .any (fun w args => (Rows.wholeTextSpec.pre enc Tryz.prog Tryz.f3 Rows.wholeTextRow.domain false w args ∧ laidMetH Tryz.prog Rows.wholeTextRow.laid w) ∧ sizedMet enc Tryz.prog Tryz.f3 (OpenSpec.ofChange Rows.wholeTextSpec) false w args) (Rows.wholeTextSpec.post enc Tryz.prog Tryz.f3 false true false false) := by
  refine returnsInHanded_of_change_and (C := Tryz.checked) (X := fun w _ => laidMetH Tryz.prog Rows.wholeTextRow.laid w) (fun _ _ _ hh h => h.of_heap hh) own started (by kernel_rfl) Tryz.func3
    (ChangeSpec.witness_shaped (enc := enc) (C := Tryz.checked) (os := os) (X := fun w _ => laidMetH Tryz.prog Rows.wholeTextRow.laid w) false (World.laidAll Tryz.prog os Rows.wholeTextRow.laid) #[(.int .u8 0), (.slice none 0 0)] 8 (World.laidAll_os _ _ _)
      (World.shaped_of_ZipB (by kernel_rfl) (by kernel_rfl)) (by kernel_rfl) (by kernel_rfl) (by kernel_rfl)
      (by rw [MakeChecks.laidMetH_plain _ _ _ (by kernel_rfl)]; exact laidMet_laidAll _ (by kernel_rfl) (by kernel_rfl))) ?_
  intro W base args ds gs before hval0 hW hcnd hsz0 hL _
  have hsz : (DataW.weightsEach Tryz.prog (Tryz.f3.params.toList ++ Rows.wholeTextSpec.plain.varTypes Tryz.prog) (ds ++ gs)).all (· ≤ reachBytes) = true := hsz0
  have hval : ∀ (j : Nat) t v, Tryz.f3.params[j]? = some t → args[j]? = some v → Value.okWide Tryz.prog W .any base t v := hval0
  have hW' := hW
  obtain ⟨p, q, hA0, hV, rfl, hfz, hnd⟩ := hW
  have hA : DataW.TrodAll enc Tryz.prog W 0 (fun _ => true) true Tryz.f3.params.toList args.toList ds p := hA0
  rw [Tryz.params3] at hA hval hsz
  obtain ⟨v0, vs0, d0, ds0, p0, q0, hargs, rfl, rfl, h0, r0⟩ := trodAll_cons hA
  obtain ⟨v1, vs1, d1, ds1, p1, q1, rfl, rfl, rfl, h1, r1⟩ := trodAll_cons r0
  obtain ⟨rfl, rfl, rfl⟩ := trodAll_nil r1
  obtain rfl : args = #[v0, v1] := by cases args; simp_all
  obtain ⟨rfl, rfl⟩ := trodVars_none hV
  have k0 := h0
  have lt0 : ∀ x ∈ p0, x.block < W.heap.size := by obtain ⟨m, hm⟩ := k0; exact DataW.trod_lt m _ _ _ hm
  obtain ⟨x0, ⟨y0, e0, G0⟩, V0⟩ := dO7 (P := Tryz.prog) (U := U) (T := ck2) (t := 5) (ad3.int (g := gE) Tryz.underlying5 (by kernel_rfl)) (by kernel_rfl) (hval 0 5 v0 rfl rfl) h0 (dA9 hsz (j := 0) (t := 5) rfl rfl)
  have g0 : do4 x0 := by subst e0; exact G0
  have k1 := h1
  have lt1 : ∀ x ∈ p1, x.block < W.heap.size := by obtain ⟨m, hm⟩ := k1; exact DataW.trod_lt m _ _ _ hm
  obtain ⟨x1, ⟨y1, e1, G1⟩, V1⟩ := dO7 (P := Tryz.prog) (U := U) (T := ae0) (t := 22) cN5 (by kernel_rfl) (hval 1 22 v1 rfl rfl) h1 (dA9 hsz (j := 1) (t := 22) rfl rfl)
  have g1 : bK1 x1 := by subst e1; exact G1
  try clear hA0 hval0 hsz0 hsz
  have HE : aE1 Tryz.prog U ⟨3, ar2, bm9⟩ := cP6
  have HR := Go.VP.wholeText_pure x0 g0 x1 g1
  have HA : ag6 Tryz.prog U W (IW W) (fun _ => none) (fun _ => (0, 0)) (ap7 ar2.ps (x0, x1, ())) [v0, v1] 0 := ag6.val _ _ _ _ _ _ V0 (ag6.val _ _ _ _ _ _ V1 (ag6.nil _))
  refine (ei3 HE HR rfl HA (db8 hL).1 (db8 hL).2).mono fun e W' ⟨he, bel⟩ => ?_
  subst he
  exact ⟨_, rfl, _, _, _, [], _, [], hW', trodAll_mk1 (shut_bool Tryz.underlying4 _), (trodAll_cons_mk (Below.trod laidOut (by kernel_rfl) (of_decide_eq_true (by kernel_rfl)) k0 bel lt0) (trodAll_cons_mk (Below.trod laidOut (by kernel_rfl) (of_decide_eq_true (by kernel_rfl)) k1 bel lt1) trodAll_mk0)), rfl, bel.frame _, fun h => by cases h⟩
theorem ai {a b : Bool} (h : a = true) (k : b = true) : (a && b) = true := by rw [h, k]; rfl
theorem j1 : (Rows.wholeTextRow.wf (OpenSpec.ofChange Rows.wholeTextSpec) && laidOutB Tryz.pinned.checked.prog && mapsRowed Tryz.pinned.checked.prog && Tryz.f3.params.all (Tryz.pinned.checked.prog.readableRec ·) && namedTie Tryz.pinned.checked.prog Rows.wholeTextRow.named Rows.wholeTextSpec.vars && (Rows.wholeTextRow.stops == []) && (Tryz.pinned.checked.prog.stops == []) && (Rows.wholeTextRow.knobs == []) && (Tryz.pinned.checked.prog.stopKnobs == [])) = true := by kernel_rfl
theorem j2 : (Rows.wholeTextRow.inPlace == Tryz.pinned.checked.prog.inPlace 3) = true ∧ (Rows.wholeTextRow.unfollowed == Tryz.pinned.checked.prog.unfollowed 3) = true ∧ (Rows.wholeTextRow.recurses == Tryz.pinned.checked.prog.recurses 3) = true ∧ (Rows.wholeTextRow.named == Tryz.pinned.checked.prog.varsNamed 3) = true := ⟨by kernel_rfl, by kernel_rfl, by kernel_rfl, by kernel_rfl⟩
theorem j3 : Tryz.pinned.checked.prog.stopsHeard = true := by kernel_rfl
theorem j4 : Tryz.pinned.checked.prog.mayEnter = true := by kernel_rfl
theorem j5 : (Rows.wholeTextRow.lifted == Tryz.pinned.checked.prog.liftsFinal) = true := by kernel_rfl
theorem closed : joinedFacts Tryz.pinned.checked.prog 3 Tryz.f3 Rows.wholeTextSpec Rows.wholeTextRow = true := (ai (ai (ai (ai (ai (ai (ai (ai (ai (ai (ai (ai (ai (ai (ai (ai (ai (ai (ai (ai (ai (ai (ai j1 j2.1) j2.2.1) j2.2.2.1) j2.2.2.2) (by kernel_rfl)) (by kernel_rfl)) (by kernel_rfl)) (by kernel_rfl)) (by kernel_rfl)) (by kernel_rfl)) (by kernel_rfl)) (by kernel_rfl)) (by kernel_rfl)) (by kernel_rfl)) (by kernel_rfl)) j3) j4) j5) (by kernel_rfl)) (by kernel_rfl)) (by kernel_rfl)) (by kernel_rfl)) (by kernel_rfl))
theorem over : Rows.wholeTextRow.holds Tryz.pinned (OpenSpec.ofChange Rows.wholeTextSpec) :=
  OpenClaim.holds_of_wide 3 Tryz.f3 rfl rfl rfl rfl rfl rfl rfl ⟨rfl, rfl, rfl, rfl, rfl⟩ rfl rfl rfl rfl rfl (by kernel_rfl) Tryz.func3 closed
    (of_decide_eq_true (by kernel_rfl)) (by unfold Func.isWrapper; first | (rw [if_pos (by decide +kernel)]; kernel_rfl) | (rw [if_neg (by decide +kernel)]; exact ⟨rfl, rfl⟩))
    (fun os started H enc _ => lifted os started H enc)
theorem proved : Rows.WholeTextSaid := over
end Go.Proofs.YtngopicaeoapnaaGreatDoor.wholeText
namespace Go.Proofs.YtngopicaeoapnaaGreatDoor
/-- The row, under a short name, for the claim. -/
theorem wholeText_holds : Rows.WholeTextSaid := wholeText.proved
/-- THE TIED CARD. -/
theorem wholeText_card_holds : Rows.WholeTextCardSaid :=
  Claim7.holds_tied_plain_at .later [] [.data, .data, .data, .data, .sentinel, .sentinel, .pinned] true (true, "6555aa0f3bc9dbe39c43cae8b1b378f48033ad8e5688b4d94acc65f2758688dd") true wholeText_holds (fun _ h => by cases h) (by kernel_rfl) (fun _ h => by cases h) wholeText_row_tie rfl ⟨rfl, rfl⟩ (by kernel_rfl) rfl
    (fun f fn hf hfn => by
      obtain rfl : f = 3 := Option.some.inj ((show Tryz.prog.funcNamed "roadbook/roadbooktop.WholeText" = some 3 by kernel_rfl).symm.trans hf) |>.symm
      obtain rfl : fn = Tryz.f3 := (Option.some.inj (Tryz.func3.symm.trans hfn)).symm
      exact ⟨by kernel_rfl, fun j t ht => by
        rw [Tryz.params3] at ht
        have hm : t ∈ [5, 22] := by simpa using Array.mem_of_getElem? ht
        have hall : ([5, 22].all fun u => !Tryz.prog.wantsStandIn u) = true := by kernel_rfl
        exact (show Tryz.prog.wantsStandIn t = false by simpa using List.all_eq_true.1 hall t hm)⟩)
    (by kernel_rfl)
end Go.Proofs.YtngopicaeoapnaaGreatDoor
