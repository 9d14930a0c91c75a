/- The statement TextReadsSaid, as it is given, without a condition of ours: for all arguments the law roadbook/roadbooklaw29.TextReads returns true, and its arguments read afterwards as before. The walk goes by an evaluator of the given bodies (VI: the texts V1 and on, proved sound there); the plain law stands in the text PureTextReads. -/
import Derived.Test.YtojlppofmjkmhaaDoorRows
import Derived.Test.YtojlppofmjkmhaaDoorGFOk
import Derived.Test.YtojlppofmjkmhaaDoorGFGood
import Derived.Test.YtojlppofmjkmhaaDoorGPureTextReads
import Derived.WalkKit
import Derived.ProofKit
import Derived.OpenShut
import Derived.ShutString
import Derived.ChangeOld
import Derived.Below
import Derived.SizedLaws
import Derived.Lay
import Derived.Handed
import Derived.SevenTiedAt
import Derived.Stop.Joined
import Derived.Test.YtojlppofmjkmhaaDoorGXEnv
import Derived.Test.YtojlppofmjkmhaaDoorCards
import Derived.Test.YtojlppofmjkmhaaDoorTie
namespace Go.Proofs.YtojlppofmjkmhaaDoor.textReads
open Go Go.VI Go.ChangeShapes Go.WideShapes Go.ChangeAt Go.RowKit
set_option linter.unusedVariables false
theorem own : ownKnob Tryd.prog.godebug = none := by kernel_rfl
theorem laidOut : laidOutB Tryd.prog = true := by kernel_rfl
set_option maxHeartbeats 4000000 in
set_option maxRecDepth 100000 in
theorem lifted (os : Os) (started : os.Started) (H : Type) (enc : TypeId × Value → H) :
    ReturnsInHanded {} Tryd.checked os 4 .any (fun w args => (Rows.textReadsSpec.pre enc Tryd.prog Tryd.f4 Rows.textReadsRow.domain false w args ∧ laidMetH Tryd.prog Rows.textReadsRow.laid w) ∧ sizedMet enc Tryd.prog Tryd.f4 (OpenSpec.ofChange Rows.textReadsSpec) false w args) (Rows.textReadsSpec.post enc Tryd.prog Tryd.f4 false true false false) := by
  refine returnsInHanded_of_change_and (C := Tryd.checked) (X := fun w _ => laidMetH Tryd.prog Rows.textReadsRow.laid w) (fun _ _ _ hh h => h.of_heap hh) own started (by kernel_rfl) Tryd.func4
    (ChangeSpec.witness_shaped (enc := enc) (C := Tryd.checked) (os := os) (X := fun w _ => laidMetH Tryd.prog Rows.textReadsRow.laid w) false (World.laidAll Tryd.prog os Rows.textReadsRow.laid) #[(.string ⟨#[]⟩)] 8 (World.laidAll_os _ _ _)
      (World.shaped_of_ZipB (by kernel_rfl) (by kernel_rfl)) (by kernel_rfl) (by kernel_rfl) (by kernel_rfl)
      (by rw [MakeChecks.laidMetH_plain _ _ _ (by kernel_rfl)]; exact laidMet_laidAll _ (by kernel_rfl) (by kernel_rfl))) ?_
  intro W base args ds gs before hval0 hW hcnd hsz0 hL _
  have hsz : (DataW.weightsEach Tryd.prog (Tryd.f4.params.toList ++ Rows.textReadsSpec.plain.varTypes Tryd.prog) (ds ++ gs)).all (· ≤ reachBytes) = true := hsz0
  have hval : ∀ (j : Nat) t v, Tryd.f4.params[j]? = some t → args[j]? = some v → Value.okWide Tryd.prog W .any base t v := hval0
  have hW' := hW
  obtain ⟨p, q, hA0, hV, rfl, hfz, hnd⟩ := hW
  have hA : DataW.TrodAll enc Tryd.prog W 0 (fun _ => true) true Tryd.f4.params.toList args.toList ds p := hA0
  rw [Tryd.params4] at hA hval hsz
  obtain ⟨v0, vs0, d0, ds0, p0, q0, hargs, rfl, rfl, h0, r0⟩ := trodAll_cons hA
  obtain ⟨rfl, rfl, rfl⟩ := trodAll_nil r0
  obtain rfl : args = #[v0] := by cases args; simp_all
  obtain ⟨rfl, rfl⟩ := trodVars_none hV
  have k0 := h0
  have lt0 : ∀ x ∈ p0, x.block < W.heap.size := by obtain ⟨m, hm⟩ := k0; exact DataW.trod_lt m _ _ _ hm
  obtain ⟨x0, ⟨y0, e0, G0⟩, V0⟩ := arg_open (P := Tryd.prog) (U := U) (T := T_string) (t := 9) (Opens.str (g := gE) Tryd.underlying9 (by kernel_rfl)) (by kernel_rfl) (hval 0 9 v0 rfl rfl) h0 (sized_arg hsz (j := 0) (t := 9) rfl rfl)
  have g0 : Good_string x0 := by subst e0; exact G0
  try clear hA0 hval0 hsz0 hsz
  have HE : EntOk Tryd.prog U ⟨4, sg_law29_TextReads, g_law29_TextReads⟩ := e_law29_TextReads_ok
  have HR := Go.VP.textReads_pure x0 g0
  have HA : ArgsRel Tryd.prog U W (IW W) (fun _ => none) (fun _ => (0, 0)) (encArgs sg_law29_TextReads.ps (x0, ())) [v0] 0 := ArgsRel.val _ _ _ _ _ _ V0 (ArgsRel.nil _)
  refine (law_calls2 HE HR rfl HA (env_of_laid hL).1 (env_of_laid hL).2).mono fun e W' ⟨he, bel⟩ => ?_
  subst he
  exact ⟨_, rfl, _, _, _, [], _, [], hW', trodAll_mk1 (shut_bool Tryd.underlying4 _), (trodAll_cons_mk (Below.trod laidOut (by kernel_rfl) (of_decide_eq_true (by kernel_rfl)) k0 bel lt0) trodAll_mk0), rfl, bel.frame _, fun h => by cases h⟩
theorem ai {a b : Bool} (h : a = true) (k : b = true) : (a && b) = true := by rw [h, k]; rfl
theorem j1 : (Rows.textReadsRow.wf (OpenSpec.ofChange Rows.textReadsSpec) && laidOutB Tryd.pinned.checked.prog && mapsRowed Tryd.pinned.checked.prog && Tryd.f4.params.all (Tryd.pinned.checked.prog.readableRec ·) && namedTie Tryd.pinned.checked.prog Rows.textReadsRow.named Rows.textReadsSpec.vars && (Rows.textReadsRow.stops == []) && (Tryd.pinned.checked.prog.stops == []) && (Rows.textReadsRow.knobs == []) && (Tryd.pinned.checked.prog.stopKnobs == [])) = true := by kernel_rfl
theorem j2 : (Rows.textReadsRow.inPlace == Tryd.pinned.checked.prog.inPlace 4) = true ∧ (Rows.textReadsRow.unfollowed == Tryd.pinned.checked.prog.unfollowed 4) = true ∧ (Rows.textReadsRow.recurses == Tryd.pinned.checked.prog.recurses 4) = true ∧ (Rows.textReadsRow.named == Tryd.pinned.checked.prog.varsNamed 4) = true := ⟨by kernel_rfl, by kernel_rfl, by kernel_rfl, by kernel_rfl⟩
theorem j3 : Tryd.pinned.checked.prog.stopsHeard = true := by kernel_rfl
theorem j4 : Tryd.pinned.checked.prog.mayEnter = true := by kernel_rfl
theorem j5 : (Rows.textReadsRow.lifted == Tryd.pinned.checked.prog.liftsFinal) = true := by kernel_rfl
theorem closed : joinedFacts Tryd.pinned.checked.prog 4 Tryd.f4 Rows.textReadsSpec Rows.textReadsRow = true := (ai (ai (ai (ai (ai (ai (ai (ai (ai (ai (ai (ai (ai (ai (ai (ai (ai (ai (ai (ai (ai (ai (ai j1 j2.1) j2.2.1) j2.2.2.1) j2.2.2.2) (by kernel_rfl)) (by kernel_rfl)) (by kernel_rfl)) (by kernel_rfl)) (by kernel_rfl)) (by kernel_rfl)) (by kernel_rfl)) (by kernel_rfl)) (by kernel_rfl)) (by kernel_rfl)) (by kernel_rfl)) j3) j4) j5) (by kernel_rfl)) (by kernel_rfl)) (by kernel_rfl)) (by kernel_rfl)) (by kernel_rfl))
theorem over : Rows.textReadsRow.holds Tryd.pinned (OpenSpec.ofChange Rows.textReadsSpec) :=
  OpenClaim.holds_of_wide 4 Tryd.f4 rfl rfl rfl rfl rfl rfl rfl ⟨rfl, rfl, rfl, rfl, rfl⟩ rfl rfl rfl rfl rfl (by kernel_rfl) Tryd.func4 closed
    (of_decide_eq_true (by kernel_rfl)) (by unfold Func.isWrapper; first | (rw [if_pos (by decide +kernel)]; kernel_rfl) | (rw [if_neg (by decide +kernel)]; exact ⟨rfl, rfl⟩))
    (fun os started H enc _ => lifted os started H enc)
theorem proved : Rows.TextReadsSaid := over
end Go.Proofs.YtojlppofmjkmhaaDoor.textReads
namespace Go.Proofs.YtojlppofmjkmhaaDoor
/-- The row, under a short name, for the claim. -/
theorem textReads_holds : Rows.TextReadsSaid := textReads.proved
/-- THE TIED CARD. -/
theorem textReads_card_holds : Rows.TextReadsCardSaid :=
  Claim7.holds_tied_plain_at .later [] [.data, .data, .data, .data, .sentinel, .sentinel, .pinned] true (true, "2b42b7feaaac9c6950634372f7b7aa021cc693552a8ff0bd391b100edbf5033c") true textReads_holds (fun _ h => by cases h) (by kernel_rfl) (fun _ h => by cases h) textReads_row_tie rfl ⟨rfl, rfl⟩ (by kernel_rfl) rfl
    (fun f fn hf hfn => by
      obtain rfl : f = 4 := Option.some.inj ((show Tryd.prog.funcNamed "roadbook/roadbooklaw29.TextReads" = some 4 by kernel_rfl).symm.trans hf) |>.symm
      obtain rfl : fn = Tryd.f4 := (Option.some.inj (Tryd.func4.symm.trans hfn)).symm
      exact ⟨by kernel_rfl, fun j t ht => by
        rw [Tryd.params4] at ht
        have hm : t ∈ [9] := by simpa using Array.mem_of_getElem? ht
        have hall : ([9].all fun u => !Tryd.prog.wantsStandIn u) = true := by kernel_rfl
        exact (show Tryd.prog.wantsStandIn t = false by simpa using List.all_eq_true.1 hall t hm)⟩)
    (by kernel_rfl)
end Go.Proofs.YtojlppofmjkmhaaDoor
