/- The statement EntryBackSaid, as it is given, without a condition of ours: for all arguments the law roadbook/roadbooklaw08.EntryBack returns true, and its arguments read afterwards as before. (The walk is written by wip/tools/xprint.py of this repo over the kit's printer; the plain law stands in YtjgnpggpgkkknaaPureEntryBack.) -/
import Derived.Test.YtjgnpggpgkkknaaRows
import Derived.Test.YtjgnpggpgkkknaaPr11
import Derived.Test.YtjgnpggpgkkknaaPureEntryBack
import Derived.Test.YtjgnpggpgkkknaaXOpen
import Derived.WalkKit
import Derived.ProofKit
import Derived.OpenShut
import Derived.ShutString
import Derived.ChangeOld
import Derived.Below
import Derived.SizedLaws
namespace Go.Proofs.Ytjgnpggpgkkknaa.entryBack
open Go.ChangeShapes Go.WideShapes Go.ChangeAt Go.RowKit Go.Proofs.Ytjgnpggpgkkknaa.Pr Go.Proofs.YtjgnpggpgkkknaaW.PrintWords
open Go.ChangeMaps (open_string shut_string)
set_option linter.unusedVariables false
theorem own : ownKnob Try.prog.godebug = none := by kernel_rfl
theorem laidOut : laidOutB Try.prog = true := by kernel_rfl
theorem opens23 : Opens Try.prog 23 k23 G23 := Opens.struct (fun x : S23 => (x.f0, x.f1, x.f2, x.f3, x.f4, x.f5)) (fun x => ⟨x.1, x.2.1, x.2.2.1, x.2.2.2.1, x.2.2.2.2.1, x.2.2.2.2.2⟩) (fun _ => rfl) Try.underlying23 (by kernel_rfl) (OpensF.cons _ rfl rfl (Opens.int Try.underlying3 (by kernel_rfl)) rfl (OpensF.cons _ rfl rfl (Opens.int Try.underlying3 (by kernel_rfl)) rfl (OpensF.cons _ rfl rfl (Opens.str Try.underlying9 (by kernel_rfl)) rfl (OpensF.cons _ rfl rfl (Opens.str Try.underlying9 (by kernel_rfl)) rfl (OpensF.cons _ rfl rfl (Opens.str Try.underlying9 (by kernel_rfl)) rfl (OpensF.one _ rfl rfl (Opens.int Try.underlying3 (by kernel_rfl))))))))
set_option maxRecDepth 100000 in
theorem lifted (os : Os) (started : os.Started) (H : Type) (enc : TypeId × Value → H) :
    ReturnsInHanded {} Try.checked os 4 .any (Rows.entryBackSpec.pre6 enc Try.prog Try.f4 Rows.entryBackRow.domain false) (Rows.entryBackSpec.post enc Try.prog Try.f4 false true false false) := by
  refine returnsInHanded_of_change_sized (C := Try.checked) own started (by kernel_rfl) Try.func4
    (ChangeSpec.witness6 (enc := enc) (C := Try.checked) false ⟨#[], #[(.string ⟨#[]⟩), (.agg #[(.int .i64 0), (.int .i64 0), (.string ⟨#[]⟩), (.string ⟨#[]⟩), (.string ⟨#[]⟩), (.int .i64 0)])], []⟩ 8 (by kernel_rfl) (by kernel_rfl) (by kernel_rfl) (by kernel_rfl)) ?_
  intro W base args ds gs before hval0 hW hcnd hsz0 _
  have hsz : (DataW.weightsEach Try.prog (Try.f4.params.toList ++ Rows.entryBackSpec.plain.varTypes Try.prog) (ds ++ gs)).all (· ≤ reachBytes) = true := hsz0
  have hval : ∀ (j : Nat) t v, Try.f4.params[j]? = some t → args[j]? = some v → Value.okWide Try.prog W .any base t v := hval0
  have hW' := hW
  obtain ⟨p, q, hA0, hV, rfl, hfz, hnd⟩ := hW
  have hA : DataW.TrodAll enc Try.prog W 0 (fun _ => true) true Try.f4.params.toList args.toList ds p := hA0
  rw [Try.params4] at hA hval hsz
  obtain ⟨v0, vs0, d0, ds0, p0, q0, hargs, rfl, rfl, h0, r0⟩ := trodAll_cons hA
  obtain ⟨v1, vs1, d1, ds1, p1, q1, rfl, rfl, rfl, h1, r1⟩ := trodAll_cons r0
  obtain ⟨rfl, rfl, rfl⟩ := trodAll_nil r1
  obtain rfl : args = #[v0, v1] := by cases args; simp_all
  obtain ⟨rfl, rfl⟩ := trodVars_none hV
  obtain ⟨a0, rfl, rfl, rfl, y0⟩ := open_string Try.underlying9 (hval 0 9 v0 rfl rfl) h0
  have g0 : a0.size ≤ 140737488351232 := by
    have z := sized_string hsz (j := 0) (t := 9) rfl rfl
    rw [Array.length_toList] at z
    exact z
  obtain ⟨cs1, rfl, _⟩ := okWide_struct Try.underlying23 (hval 1 23 v1 rfl rfl)
  have k1 := h1
  have lt1 : ∀ x ∈ p1, x.block < W.heap.size := by obtain ⟨m, hm⟩ := k1; exact DataW.trod_lt m _ _ _ hm
  obtain ⟨x1, K1, g1⟩ : ∃ x, k23.K W x cs1.toList ∧ G23 x := by
    obtain ⟨fuel, hf⟩ := h1
    exact opens23.2 _ _ _ _ _ _ _ _ _ hf (sized_arg hsz (j := 1) (t := 23) rfl rfl)
  have E1 := k23_open K1
  obtain rfl : cs1 = #[.int .i64 x1.f0, .int .i64 x1.f1, .string x1.f2, .string x1.f3, .string x1.f4, .int .i64 x1.f5] := Array.toList_inj.1 E1
  clear hA0 hval0 hsz0 hsz
  refine (roadbooklaw08_EntryBack.walk Pure.EntryBack a0 x1 W g0 g1).mono fun e W' ⟨he, bel⟩ => ?_
  subst he
  exact ⟨_, rfl, _, _, _, [], _, [], hW', trodAll_mk1 (shut_bool Try.underlying4 _), (trodAll_cons_mk (shut_string Try.underlying9 y0) (trodAll_cons_mk (Below.trod laidOut (by kernel_rfl) (of_decide_eq_true (by kernel_rfl)) k1 bel lt1) trodAll_mk0)), rfl, bel.frame _, fun h => by cases h⟩
theorem over : Rows.entryBackRow.holds Try.pinned (OpenSpec.ofChange Rows.entryBackSpec) :=
  OpenClaim.holds_of_wide 4 Try.f4 rfl rfl rfl rfl rfl rfl rfl ⟨rfl, rfl, rfl, rfl, rfl⟩ rfl rfl rfl rfl rfl (by kernel_rfl) Try.func4 (by kernel_rfl)
    (of_decide_eq_true (by kernel_rfl)) (by unfold Func.isWrapper; first | (rw [if_pos (by decide +kernel)]; kernel_rfl) | (rw [if_neg (by decide +kernel)]; exact ⟨rfl, rfl⟩))
    (fun os started H enc _ => lifted os started H enc)
theorem proved : Rows.EntryBackSaid := over
#print axioms proved
end Go.Proofs.Ytjgnpggpgkkknaa.entryBack
namespace Go.Proofs.Ytjgnpggpgkkknaa
/-- The row, under a short name, for the claim. -/
theorem entryBack_holds : Rows.EntryBackSaid := entryBack.proved
end Go.Proofs.Ytjgnpggpgkkknaa
