/- The statement SubPadsSaid, as it is given, without a condition of ours: for all arguments the law roadbook/roadbooklaw19.SubPads returns true, and its arguments read afterwards as before. (The walk is written by wip/tools/xprint.py of this repo over the kit's printer; the plain law stands in YtjgnpggpgkkknaaPureSubPads.) -/
import Derived.Test.YtjgnpggpgkkknaaRows
import Derived.Test.YtjgnpggpgkkknaaPr26
import Derived.Test.YtjgnpggpgkkknaaPureSubPads
import Derived.Test.YtjgnpggpgkkknaaXOpen
import Derived.WalkKit
import Derived.ProofKit
import Derived.OpenShut
import Derived.ShutString
import Derived.ChangeOld
import Derived.Below
import Derived.SizedLaws
namespace Go.Proofs.Ytjgnpggpgkkknaa.subPads
open Go.ChangeShapes Go.WideShapes Go.ChangeAt Go.RowKit Go.Proofs.Ytjgnpggpgkkknaa.Pr Go.Proofs.YtjgnpggpgkkknaaW.PrintWords
open Go.ChangeMaps (open_string shut_string)
set_option linter.unusedVariables false
theorem own : ownKnob Try.prog.godebug = none := by kernel_rfl
theorem laidOut : laidOutB Try.prog = true := by kernel_rfl
theorem opens78 : Opens Try.prog 78 k78 G78 := Opens.struct (fun x : S78 => (x.f0, x.f1)) (fun x => ⟨x.1, x.2⟩) (fun _ => rfl) Try.underlying78 (by kernel_rfl) (OpensF.cons _ rfl rfl (Opens.int Try.underlying3 (by kernel_rfl)) rfl (OpensF.one _ rfl rfl (Opens.str Try.underlying9 (by kernel_rfl))))
set_option maxHeartbeats 4000000 in
set_option maxRecDepth 100000 in
theorem lifted (os : Os) (started : os.Started) (H : Type) (enc : TypeId × Value → H) :
    ReturnsInHanded {} Try.checked os 11 .any (Rows.subPadsSpec.pre6 enc Try.prog Try.f11 Rows.subPadsRow.domain false) (Rows.subPadsSpec.post enc Try.prog Try.f11 false true false false) := by
  refine returnsInHanded_of_change_sized (C := Try.checked) own started (by kernel_rfl) Try.func11
    (ChangeSpec.witness6 (enc := enc) (C := Try.checked) false ⟨#[], #[(.slice none 0 0), (.slice none 0 0)], []⟩ 8 (by kernel_rfl) (by kernel_rfl) (by kernel_rfl) (by kernel_rfl)) ?_
  intro W base args ds gs before hval0 hW hcnd hsz0 _
  have hsz : (DataW.weightsEach Try.prog (Try.f11.params.toList ++ Rows.subPadsSpec.plain.varTypes Try.prog) (ds ++ gs)).all (· ≤ reachBytes) = true := hsz0
  have hval : ∀ (j : Nat) t v, Try.f11.params[j]? = some t → args[j]? = some v → Value.okWide Try.prog W .any base t v := hval0
  have hW' := hW
  obtain ⟨p, q, hA0, hV, rfl, hfz, hnd⟩ := hW
  have hA : DataW.TrodAll enc Try.prog W 0 (fun _ => true) true Try.f11.params.toList args.toList ds p := hA0
  rw [Try.params11] at hA hval hsz
  obtain ⟨v0, vs0, d0, ds0, p0, q0, hargs, rfl, rfl, h0, r0⟩ := trodAll_cons hA
  obtain ⟨v1, vs1, d1, ds1, p1, q1, rfl, rfl, rfl, h1, r1⟩ := trodAll_cons r0
  obtain ⟨rfl, rfl, rfl⟩ := trodAll_nil r1
  obtain rfl : args = #[v0, v1] := by cases args; simp_all
  obtain ⟨rfl, rfl⟩ := trodVars_none hV
  obtain ⟨b0, len0, cap0, rfl⟩ := okWide_slice Try.underlying48 (hval 0 48 v0 rfl rfl)
  have k0 := h0
  have lt0 : ∀ x ∈ p0, x.block < W.heap.size := by obtain ⟨m, hm⟩ := k0; exact DataW.trod_lt m _ _ _ hm
  obtain ⟨l0, K0, g0⟩ : ∃ x, (Kd.slice 78 k78).K W x [.slice b0 len0 cap0] ∧ (x.length * 24 ≤ 140737488351232 ∧ ∀ y_ ∈ x, G78 y_) := by
    obtain ⟨fuel, hf⟩ := h0
    exact (Opens.slice Try.underlying48 (by kernel_rfl) (B := 24) (by kernel_rfl) opens78).2 _ _ _ _ _ _ _ _ _ hf (sized_arg hsz (j := 0) (t := 48) rfl rfl)
  obtain ⟨A0, c0, e0, hc0, hr0⟩ := K0
  simp only [List.cons.injEq, Value.slice.injEq, and_true] at e0
  obtain ⟨rfl, rfl, rfl⟩ := e0
  obtain ⟨b1, len1, cap1, rfl⟩ := okWide_slice Try.underlying55 (hval 1 55 v1 rfl rfl)
  have k1 := h1
  have lt1 : ∀ x ∈ p1, x.block < W.heap.size := by obtain ⟨m, hm⟩ := k1; exact DataW.trod_lt m _ _ _ hm
  obtain ⟨l1, K1, g1⟩ : ∃ x, (Kd.slice 5 (Kd.int .u8)).K W x [.slice b1 len1 cap1] ∧ (x.length * 1 ≤ 140737488351232 ∧ ∀ y_ ∈ x, (Lit.int .u8 y_).wf = true) := by
    obtain ⟨fuel, hf⟩ := h1
    exact (Opens.slice Try.underlying55 (by kernel_rfl) (B := 1) (by kernel_rfl) (Opens.int Try.underlying5 (by kernel_rfl))).2 _ _ _ _ _ _ _ _ _ hf (sized_arg hsz (j := 1) (t := 55) rfl rfl)
  obtain ⟨A1, c1, e1, hc1, hr1⟩ := K1
  simp only [List.cons.injEq, Value.slice.injEq, and_true] at e1
  obtain ⟨rfl, rfl, rfl⟩ := e1
  clear hA0 hval0 hsz0 hsz
  refine (roadbooklaw19_SubPads.walk Pure.SubPads l0 l1 _ _ _ _ W g0 g1 hr0 hc0 hr1 hc1).mono fun e W' ⟨he, bel⟩ => ?_
  subst he
  exact ⟨_, rfl, _, _, _, [], _, [], hW', trodAll_mk1 (shut_bool Try.underlying4 _), (trodAll_cons_mk (Below.trod laidOut (by kernel_rfl) (of_decide_eq_true (by kernel_rfl)) k0 bel lt0) (trodAll_cons_mk (Below.trod laidOut (by kernel_rfl) (of_decide_eq_true (by kernel_rfl)) k1 bel lt1) trodAll_mk0)), rfl, bel.frame _, fun h => by cases h⟩
theorem over : Rows.subPadsRow.holds Try.pinned (OpenSpec.ofChange Rows.subPadsSpec) :=
  OpenClaim.holds_of_wide 11 Try.f11 rfl rfl rfl rfl rfl rfl rfl ⟨rfl, rfl, rfl, rfl, rfl⟩ rfl rfl rfl rfl rfl (by kernel_rfl) Try.func11 (by kernel_rfl)
    (of_decide_eq_true (by kernel_rfl)) (by unfold Func.isWrapper; first | (rw [if_pos (by decide +kernel)]; kernel_rfl) | (rw [if_neg (by decide +kernel)]; exact ⟨rfl, rfl⟩))
    (fun os started H enc _ => lifted os started H enc)
theorem proved : Rows.SubPadsSaid := over
#print axioms proved
end Go.Proofs.Ytjgnpggpgkkknaa.subPads
namespace Go.Proofs.Ytjgnpggpgkkknaa
/-- The row, under a short name, for the claim. -/
theorem subPads_holds : Rows.SubPadsSaid := subPads.proved
end Go.Proofs.Ytjgnpggpgkkknaa
