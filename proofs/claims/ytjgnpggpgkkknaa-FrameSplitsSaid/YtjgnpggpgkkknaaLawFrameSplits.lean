/- The statement FrameSplitsSaid, as it is given, without a condition of ours: for all arguments the law roadbook/roadbooklaw18.FrameSplits returns true, and its arguments read afterwards as before. (The walk is written by wip/tools/xprint.py of this repo over the kit's printer; the plain law stands in YtjgnpggpgkkknaaPureFrameSplits.) -/
import Derived.Test.YtjgnpggpgkkknaaRows
import Derived.Test.YtjgnpggpgkkknaaPr28
import Derived.Test.YtjgnpggpgkkknaaPureFrameSplits
import Derived.Test.YtjgnpggpgkkknaaXOpen
import Derived.WalkKit
import Derived.ProofKit
import Derived.OpenShut
import Derived.ShutString
import Derived.ChangeOld
import Derived.Below
import Derived.SizedLaws
namespace Go.Proofs.Ytjgnpggpgkkknaa.frameSplits
open Go.ChangeShapes Go.WideShapes Go.ChangeAt Go.RowKit Go.Proofs.Ytjgnpggpgkkknaa.Pr Go.Proofs.YtjgnpggpgkkknaaW.PrintWords
open Go.ChangeMaps (open_string shut_string)
set_option linter.unusedVariables false
theorem own : ownKnob Try.prog.godebug = none := by kernel_rfl
theorem laidOut : laidOutB Try.prog = true := by kernel_rfl
theorem opens43 : Opens Try.prog 43 k43 G43 := Opens.struct (fun x : S43 => (x.f0, x.f1, x.f2, x.f3)) (fun x => ⟨x.1, x.2.1, x.2.2.1, x.2.2.2⟩) (fun _ => rfl) Try.underlying43 (by kernel_rfl) (OpensF.cons _ rfl rfl (Opens.str Try.underlying9 (by kernel_rfl)) rfl (OpensF.cons _ rfl rfl (Opens.int Try.underlying41 (by kernel_rfl)) rfl (OpensF.cons _ rfl rfl (Opens.int Try.underlying3 (by kernel_rfl)) rfl (OpensF.one _ rfl rfl (Opens.str Try.underlying9 (by kernel_rfl))))))
set_option maxRecDepth 100000 in
theorem lifted (os : Os) (started : os.Started) (H : Type) (enc : TypeId × Value → H) :
    ReturnsInHanded {} Try.checked os 7 .any (Rows.frameSplitsSpec.pre6 enc Try.prog Try.f7 Rows.frameSplitsRow.domain false) (Rows.frameSplitsSpec.post enc Try.prog Try.f7 false true false false) := by
  refine returnsInHanded_of_change_sized (C := Try.checked) own started (by kernel_rfl) Try.func7
    (ChangeSpec.witness6 (enc := enc) (C := Try.checked) false ⟨#[], #[(.agg #[(.string ⟨#[]⟩), (.int .u16 0), (.int .i64 0), (.string ⟨#[]⟩)])], []⟩ 8 (by kernel_rfl) (by kernel_rfl) (by kernel_rfl) (by kernel_rfl)) ?_
  intro W base args ds gs before hval0 hW hcnd hsz0 _
  have hsz : (DataW.weightsEach Try.prog (Try.f7.params.toList ++ Rows.frameSplitsSpec.plain.varTypes Try.prog) (ds ++ gs)).all (· ≤ reachBytes) = true := hsz0
  have hval : ∀ (j : Nat) t v, Try.f7.params[j]? = some t → args[j]? = some v → Value.okWide Try.prog W .any base t v := hval0
  have hW' := hW
  obtain ⟨p, q, hA0, hV, rfl, hfz, hnd⟩ := hW
  have hA : DataW.TrodAll enc Try.prog W 0 (fun _ => true) true Try.f7.params.toList args.toList ds p := hA0
  rw [Try.params7] at hA hval hsz
  obtain ⟨v0, vs0, d0, ds0, p0, q0, hargs, rfl, rfl, h0, r0⟩ := trodAll_cons hA
  obtain ⟨rfl, rfl, rfl⟩ := trodAll_nil r0
  obtain rfl : args = #[v0] := by cases args; simp_all
  obtain ⟨rfl, rfl⟩ := trodVars_none hV
  obtain ⟨cs0, rfl, _⟩ := okWide_struct Try.underlying43 (hval 0 43 v0 rfl rfl)
  have k0 := h0
  have lt0 : ∀ x ∈ p0, x.block < W.heap.size := by obtain ⟨m, hm⟩ := k0; exact DataW.trod_lt m _ _ _ hm
  obtain ⟨x0, K0, g0⟩ : ∃ x, k43.K W x cs0.toList ∧ G43 x := by
    obtain ⟨fuel, hf⟩ := h0
    exact opens43.2 _ _ _ _ _ _ _ _ _ hf (sized_arg hsz (j := 0) (t := 43) rfl rfl)
  have E0 := k43_open K0
  obtain rfl : cs0 = #[.string x0.f0, .int .u16 x0.f1, .int .i64 x0.f2, .string x0.f3] := Array.toList_inj.1 E0
  clear hA0 hval0 hsz0 hsz
  refine (roadbooklaw18_FrameSplits.walk Pure.FrameSplits x0 W g0).mono fun e W' ⟨he, bel⟩ => ?_
  subst he
  exact ⟨_, rfl, _, _, _, [], _, [], hW', trodAll_mk1 (shut_bool Try.underlying4 _), (trodAll_cons_mk (Below.trod laidOut (by kernel_rfl) (of_decide_eq_true (by kernel_rfl)) k0 bel lt0) trodAll_mk0), rfl, bel.frame _, fun h => by cases h⟩
theorem over : Rows.frameSplitsRow.holds Try.pinned (OpenSpec.ofChange Rows.frameSplitsSpec) :=
  OpenClaim.holds_of_wide 7 Try.f7 rfl rfl rfl rfl rfl rfl rfl ⟨rfl, rfl, rfl, rfl, rfl⟩ rfl rfl rfl rfl rfl (by kernel_rfl) Try.func7 (by kernel_rfl)
    (of_decide_eq_true (by kernel_rfl)) (by unfold Func.isWrapper; first | (rw [if_pos (by decide +kernel)]; kernel_rfl) | (rw [if_neg (by decide +kernel)]; exact ⟨rfl, rfl⟩))
    (fun os started H enc _ => lifted os started H enc)
theorem proved : Rows.FrameSplitsSaid := over
#print axioms proved
end Go.Proofs.Ytjgnpggpgkkknaa.frameSplits
namespace Go.Proofs.Ytjgnpggpgkkknaa
/-- The row, under a short name, for the claim. -/
theorem frameSplits_holds : Rows.FrameSplitsSaid := frameSplits.proved
end Go.Proofs.Ytjgnpggpgkkknaa
