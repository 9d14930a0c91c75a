/- The statement AddrTellsSaid, as it is given, without a condition of ours: for all arguments the law roadbook/roadbooklaw06.AddrTells returns true, and its arguments read afterwards as before. The walk goes by an evaluator of the given bodies (VI: the texts V1 and on, proved sound there); the plain law stands in the text PureAddrTells. -/
import Derived.Test.YtblajikhleocpaaDoorRows
import Derived.Test.YtblajikhleocpaaDoorFOk
import Derived.Test.YtblajikhleocpaaDoorFGood
import Derived.Test.YtblajikhleocpaaDoorPureAddrTells
import Derived.WalkKit
import Derived.ProofKit
import Derived.OpenShut
import Derived.ShutString
import Derived.ChangeOld
import Derived.Below
import Derived.SizedLaws
import Derived.Lay
import Derived.Handed
import Derived.SevenTiedAt
import Derived.Stop.Joined
import Derived.Test.YtblajikhleocpaaDoorXEnv
import Derived.Test.YtblajikhleocpaaDoorCards
import Derived.Test.YtblajikhleocpaaDoorTie
namespace Go.Proofs.YtblajikhleocpaaDoor.addrTells
open Go Go.VI Go.ChangeShapes Go.WideShapes Go.ChangeAt Go.RowKit
set_option linter.unusedVariables false
theorem own : ownKnob Tryd.prog.godebug = none := by kernel_rfl
theorem laidOut : laidOutB Tryd.prog = true := by kernel_rfl
set_option maxHeartbeats 4000000 in
set_option maxRecDepth 100000 in
theorem lifted (os : Os) (started : os.Started) (H : Type) (enc : TypeId × Value → H) :
    ReturnsInHanded {} Tryd.checked os 4 .any (fun w args => (Rows.addrTellsSpec.pre enc Tryd.prog Tryd.f4 Rows.addrTellsRow.domain false w args ∧ laidMetH Tryd.prog Rows.addrTellsRow.laid w) ∧ sizedMet enc Tryd.prog Tryd.f4 (OpenSpec.ofChange Rows.addrTellsSpec) false w args) (Rows.addrTellsSpec.post enc Tryd.prog Tryd.f4 false true false false) := by
  refine returnsInHanded_of_change_and (C := Tryd.checked) (X := fun w _ => laidMetH Tryd.prog Rows.addrTellsRow.laid w) (fun _ _ _ hh h => h.of_heap hh) own started (by kernel_rfl) Tryd.func4
    (ChangeSpec.witness_shaped (enc := enc) (C := Tryd.checked) (os := os) (X := fun w _ => laidMetH Tryd.prog Rows.addrTellsRow.laid w) false (World.laidAll Tryd.prog os Rows.addrTellsRow.laid) #[(.string ⟨#[]⟩), (.string ⟨#[]⟩)] 8 (World.laidAll_os _ _ _)
      (World.shaped_of_ZipB (by kernel_rfl) (by kernel_rfl)) (by kernel_rfl) (by kernel_rfl) (by kernel_rfl)
      (by rw [MakeChecks.laidMetH_plain _ _ _ (by kernel_rfl)]; exact laidMet_laidAll _ (by kernel_rfl) (by kernel_rfl))) ?_
  intro W base args ds gs before hval0 hW hcnd hsz0 hL _
  have hsz : (DataW.weightsEach Tryd.prog (Tryd.f4.params.toList ++ Rows.addrTellsSpec.plain.varTypes Tryd.prog) (ds ++ gs)).all (· ≤ reachBytes) = true := hsz0
  have hval : ∀ (j : Nat) t v, Tryd.f4.params[j]? = some t → args[j]? = some v → Value.okWide Tryd.prog W .any base t v := hval0
  have hW' := hW
  obtain ⟨p, q, hA0, hV, rfl, hfz, hnd⟩ := hW
  have hA : DataW.TrodAll enc Tryd.prog W 0 (fun _ => true) true Tryd.f4.params.toList args.toList ds p := hA0
  rw [Tryd.params4] at hA hval hsz
  obtain ⟨v0, vs0, d0, ds0, p0, q0, hargs, rfl, rfl, h0, r0⟩ := trodAll_cons hA
  obtain ⟨v1, vs1, d1, ds1, p1, q1, rfl, rfl, rfl, h1, r1⟩ := trodAll_cons r0
  obtain ⟨rfl, rfl, rfl⟩ := trodAll_nil r1
  obtain rfl : args = #[v0, v1] := by cases args; simp_all
  obtain ⟨rfl, rfl⟩ := trodVars_none hV
  have k0 := h0
  have lt0 : ∀ x ∈ p0, x.block < W.heap.size := by obtain ⟨m, hm⟩ := k0; exact DataW.trod_lt m _ _ _ hm
  obtain ⟨x0, ⟨y0, e0, G0⟩, V0⟩ := arg_open (P := Tryd.prog) (U := U) (T := T_string) (t := 9) (Opens.str (g := gE) Tryd.underlying9 (by kernel_rfl)) (by kernel_rfl) (hval 0 9 v0 rfl rfl) h0 (sized_arg hsz (j := 0) (t := 9) rfl rfl)
  have g0 : Good_string x0 := by subst e0; exact G0
  have k1 := h1
  have lt1 : ∀ x ∈ p1, x.block < W.heap.size := by obtain ⟨m, hm⟩ := k1; exact DataW.trod_lt m _ _ _ hm
  obtain ⟨x1, ⟨y1, e1, G1⟩, V1⟩ := arg_open (P := Tryd.prog) (U := U) (T := T_string) (t := 9) (Opens.str (g := gE) Tryd.underlying9 (by kernel_rfl)) (by kernel_rfl) (hval 1 9 v1 rfl rfl) h1 (sized_arg hsz (j := 1) (t := 9) rfl rfl)
  have g1 : Good_string x1 := by subst e1; exact G1
  try clear hA0 hval0 hsz0 hsz
  have HE : EntOk Tryd.prog U ⟨4, sg_law06_AddrTells, g_law06_AddrTells⟩ := e_law06_AddrTells_ok
  have HR := Go.VP.addrTells_pure x0 g0 x1 g1
  have HA : ArgsRel Tryd.prog U W (IW W) (fun _ => none) (fun _ => (0, 0)) (encArgs sg_law06_AddrTells.ps (x0, x1, ())) [v0, v1] 0 := ArgsRel.val _ _ _ _ _ _ V0 (ArgsRel.val _ _ _ _ _ _ V1 (ArgsRel.nil _))
  refine (law_calls2 HE HR rfl HA (env_of_laid hL).1 (env_of_laid hL).2).mono fun e W' ⟨he, bel⟩ => ?_
  subst he
  exact ⟨_, rfl, _, _, _, [], _, [], hW', trodAll_mk1 (shut_bool Tryd.underlying4 _), (trodAll_cons_mk (Below.trod laidOut (by kernel_rfl) (of_decide_eq_true (by kernel_rfl)) k0 bel lt0) (trodAll_cons_mk (Below.trod laidOut (by kernel_rfl) (of_decide_eq_true (by kernel_rfl)) k1 bel lt1) trodAll_mk0)), rfl, bel.frame _, fun h => by cases h⟩
theorem ai {a b : Bool} (h : a = true) (k : b = true) : (a && b) = true := by rw [h, k]; rfl
theorem j1 : (Rows.addrTellsRow.wf (OpenSpec.ofChange Rows.addrTellsSpec) && laidOutB Tryd.pinned.checked.prog && mapsRowed Tryd.pinned.checked.prog && Tryd.f4.params.all (Tryd.pinned.checked.prog.readableRec ·) && namedTie Tryd.pinned.checked.prog Rows.addrTellsRow.named Rows.addrTellsSpec.vars && (Rows.addrTellsRow.stops == []) && (Tryd.pinned.checked.prog.stops == []) && (Rows.addrTellsRow.knobs == []) && (Tryd.pinned.checked.prog.stopKnobs == [])) = true := by kernel_rfl
theorem j2 : (Rows.addrTellsRow.inPlace == Tryd.pinned.checked.prog.inPlace 4) = true ∧ (Rows.addrTellsRow.unfollowed == Tryd.pinned.checked.prog.unfollowed 4) = true ∧ (Rows.addrTellsRow.recurses == Tryd.pinned.checked.prog.recurses 4) = true ∧ (Rows.addrTellsRow.named == Tryd.pinned.checked.prog.varsNamed 4) = true := ⟨by kernel_rfl, by kernel_rfl, by kernel_rfl, by kernel_rfl⟩
theorem j3 : Tryd.pinned.checked.prog.stopsHeard = true := by kernel_rfl
theorem j4 : Tryd.pinned.checked.prog.mayEnter = true := by kernel_rfl
theorem j5 : (Rows.addrTellsRow.lifted == Tryd.pinned.checked.prog.liftsFinal) = true := by kernel_rfl
theorem closed : joinedFacts Tryd.pinned.checked.prog 4 Tryd.f4 Rows.addrTellsSpec Rows.addrTellsRow = true := (ai (ai (ai (ai (ai (ai (ai (ai (ai (ai (ai (ai (ai (ai (ai (ai (ai (ai (ai (ai (ai (ai (ai j1 j2.1) j2.2.1) j2.2.2.1) j2.2.2.2) (by kernel_rfl)) (by kernel_rfl)) (by kernel_rfl)) (by kernel_rfl)) (by kernel_rfl)) (by kernel_rfl)) (by kernel_rfl)) (by kernel_rfl)) (by kernel_rfl)) (by kernel_rfl)) (by kernel_rfl)) j3) j4) j5) (by kernel_rfl)) (by kernel_rfl)) (by kernel_rfl)) (by kernel_rfl)) (by kernel_rfl))
theorem over : Rows.addrTellsRow.holds Tryd.pinned (OpenSpec.ofChange Rows.addrTellsSpec) :=
  OpenClaim.holds_of_wide 4 Tryd.f4 rfl rfl rfl rfl rfl rfl rfl ⟨rfl, rfl, rfl, rfl, rfl⟩ rfl rfl rfl rfl rfl (by kernel_rfl) Tryd.func4 closed
    (of_decide_eq_true (by kernel_rfl)) (by unfold Func.isWrapper; first | (rw [if_pos (by decide +kernel)]; kernel_rfl) | (rw [if_neg (by decide +kernel)]; exact ⟨rfl, rfl⟩))
    (fun os started H enc _ => lifted os started H enc)
theorem proved : Rows.AddrTellsSaid := over
end Go.Proofs.YtblajikhleocpaaDoor.addrTells
namespace Go.Proofs.YtblajikhleocpaaDoor
/-- The row, under a short name, for the claim. -/
theorem addrTells_holds : Rows.AddrTellsSaid := addrTells.proved
/-- THE TIED CARD. -/
theorem addrTells_card_holds : Rows.AddrTellsCardSaid :=
  Claim7.holds_tied_plain_at .later [] [.data, .data, .data, .data, .pinned] true (true, "d459f23fb91de1f537864ded12869cc7e81302aa69d1dcfc96146a6918e8d4b6") false addrTells_holds (fun _ h => by cases h) (by kernel_rfl) (fun _ h => by cases h) addrTells_row_tie rfl ⟨rfl, rfl⟩ (by kernel_rfl) rfl
    (fun f fn hf hfn => by
      obtain rfl : f = 4 := Option.some.inj ((show Tryd.prog.funcNamed "roadbook/roadbooklaw06.AddrTells" = some 4 by kernel_rfl).symm.trans hf) |>.symm
      obtain rfl : fn = Tryd.f4 := (Option.some.inj (Tryd.func4.symm.trans hfn)).symm
      exact ⟨by kernel_rfl, fun j t ht => by
        rw [Tryd.params4] at ht
        have hm : t ∈ [9, 9] := by simpa using Array.mem_of_getElem? ht
        have hall : ([9, 9].all fun u => !Tryd.prog.wantsStandIn u) = true := by kernel_rfl
        exact (show Tryd.prog.wantsStandIn t = false by simpa using List.all_eq_true.1 hall t hm)⟩)
    (by kernel_rfl)
end Go.Proofs.YtblajikhleocpaaDoor
