/- What a parser of Babel knows: Updates that may be, by program and document; the laws' example; bytes that are left out. -/
import Derived.Test.YtabekdfijifnfaaQFQ1
import Derived.Test.YtabekdfijifnfaaQFQ3
import Derived.Test.YtabekdfijifnfaaQPBase
import Derived.Test.YtabekdfijifnfaaQPCur
import Derived.Test.YtabekdfijifnfaaQPOct
import Derived.Test.YtabekdfijifnfaaQPTlv
import Derived.Test.YtabekdfijifnfaaQPSub
import Derived.Test.YtabekdfijifnfaaQPMsg
import Derived.Test.YtabekdfijifnfaaQPAll
import Derived.Test.YtabekdfijifnfaaQPAddr
import Derived.Test.YtabekdfijifnfaaQPBits
import Derived.Test.YtabekdfijifnfaaQPField
import Derived.Test.YtabekdfijifnfaaQPFieldG
import Derived.Test.YtabekdfijifnfaaQPFieldB
import Derived.Test.YtabekdfijifnfaaQPRoute
import Derived.Test.YtabekdfijifnfaaQPRouteG
import Derived.Test.YtabekdfijifnfaaQPTake
import Derived.Test.YtabekdfijifnfaaQPRouteB
import Derived.Test.YtabekdfijifnfaaQPCtx
import Derived.Test.YtabekdfijifnfaaQPCtxU
import Derived.Test.YtabekdfijifnfaaQFH
import Derived.Test.YtabekdfijifnfaaQPCtxV
import Derived.Test.YtabekdfijifnfaaQPCtxW
import Derived.Test.YtabekdfijifnfaaQPCtxX
import Derived.Test.YtabekdfijifnfaaQPIntake
import Derived.Test.YtabekdfijifnfaaQPFold
import Derived.Test.YtabekdfijifnfaaQPParts
import Derived.Test.YtabekdfijifnfaaQPUpd
import Derived.Test.YtabekdfijifnfaaQPLeanR
set_option linter.unusedVariables false
set_option linter.unusedSimpArgs false
set_option maxRecDepth 100000
namespace Go.VP
open Go Go.VI
theorem rfam6_is (a : Bs) : g_ref06_Family (a, ()) = some ((famF a, ()), ()) := by
  rw [g_ref06_Family_eq]; unfold famF
  refine bq_step (fun h => by rw [if_pos (by omega)]) (fun h => ?_)
  rw [if_neg (show ¬ a.length = 4 by omega)]
  exact bq_step (fun h => by rw [if_pos (by omega)]) (fun h => by rw [if_neg (by omega)])
theorem either_is (s : Bs) (g : Bool) : g_ctx_either (s, g, ()) = some ((decide (s = []) || g, ()), ()) := by
  rw [g_ctx_either_eq]
  refine be_step (fun h => by simp [h]) (fun h => by simp [h])
theorem nb_and {R : Type} {b S : Bool} {t : Option R} {f : Bool → Option R} (h : b = true → t = f S) : (if (!b) = true then f false else t) = f (b && S) := by
  cases b with
  | true => rw [ifnt, Bool.true_and]; exact h rfl
  | false => rw [ifnf, Bool.false_and]
theorem fits2 {n : Int} (hn : IntKind.has .i64 n) : g_octet_Fits (n, 2, ()) = some ((fitsB n 2, ()), ()) := fits_is (k := 2) hn (by omega) (by omega)
theorem two22_is {n : Int} : g_ref22_two (n, ()) = some ((fitsB n 2, ()), ()) := by
  rw [g_ref22_two_eq, show g_ref02_Fits (n, 2, ()) = some ((fitsB n 2, ()), ()) from rfits_is (k := 2) (by omega) (by omega)]; rfl
theorem fewS_of {m : Msg} (g : GoodM m) : FewS m.subs := g.few.fewS
theorem cright_is {m : Msg} (g : GoodL m) : g_ctx_Right (m, ()) = some ((updB m, ()), ()) := by
  have hl := g.good.few
  have := hl.id; have := hl.next; have := hl.pre
  rw [g_ctx_Right_eq]
  unfold updB
  refine ne_step (fun h => by rw [decide_eq_false h, Bool.false_and]) (fun h => ?_)
  rw [decide_eq_true h, Bool.true_and, bare_is, Option.bind_some]
  dsimp only
  refine nb_and (f := fun b => some ((b, ()), ())) (fun _ => ?_)
  rw [sright_is (fewS_of g.good), Option.bind_some]
  refine nb_and (f := fun b => some ((b, ()), ())) (fun _ => ?_)
  rw [in_is (by omega) g.good.plen, Option.bind_some]
  refine nb_and (f := fun b => some ((b, ()), ())) (fun _ => ?_)
  rw [fits2 g.good.interval, Option.bind_some]
  refine nb_and (f := fun b => some ((b, ()), ())) (fun _ => ?_)
  rw [fits2 g.good.seq, Option.bind_some]
  refine nb_and (f := fun b => some ((b, ()), ())) (fun _ => ?_)
  rw [fits2 g.metric, Option.bind_some]
  refine nb_and (f := fun b => some ((b, ()), ())) (fun _ => ?_)
  unfold tailB
  refine bq_step (fun h => ?_) (fun h => ?_)
  · rw [if_pos h, if_pos (maxB_of (by omega))]
    have : (m.id ++ m.next == ([] : Bs)) = (m.id == [] && m.next == []) := by
      rw [Bool.eq_iff_iff]; simp
    rw [this]
  · rw [if_neg h]
    by_cases ha : 0 < m.ae
    · rw [ifd ha, decide_eq_true ha, Bool.true_and, len8]
      cases h8 : decide (m.id.length = 8) with
      | false => rw [iff_, Bool.false_and]
      | true =>
        rw [ift, fam_is, Option.bind_some, cfam_is, Option.bind_some, either_is, Option.bind_some, Bool.true_and]
        have e1 : (m.next == ([] : Bs)) = decide (m.next = []) := by rw [Bool.eq_iff_iff]; simp
        have e2 : (famF m.next == famE m.ae) = decide (famF m.next = famE m.ae) := by rw [Bool.eq_iff_iff]; simp
        rw [e1]
        dsimp only
        rw [e2]
    · rw [ifn ha, decide_eq_false ha, Bool.false_and]
theorem rcright_is {m : Msg} (g : GoodL m) (ha : UpdR m ∨ 0 ≤ m.ae ∨ True) : g_ref22_Right (m, ()) = some ((updB m, ()), ()) := by
  have hl := g.good.few
  have := hl.id; have := hl.next; have := hl.pre; have := hl.list; have := hl.subs
  rw [g_ref22_Right_eq]
  unfold updB
  refine ne_step (fun h => by rw [decide_eq_false h, Bool.false_and]) (fun h => ?_)
  rw [decide_eq_true h, Bool.true_and, rbare_is (by omega) (by omega), Option.bind_some]
  dsimp only
  refine nb_and (f := fun b => some ((b, ()), ())) (fun _ => ?_)
  rw [rsright_is (fewS_of g.good), Option.bind_some]
  refine nb_and (f := fun b => some ((b, ()), ())) (fun _ => ?_)
  rw [rin_is (by omega), Option.bind_some]
  refine nb_and (f := fun b => some ((b, ()), ())) (fun hin => ?_)
  have hae := (inB_iff.1 hin).1
  rw [two22_is, Option.bind_some]
  refine nb_and (f := fun b => some ((b, ()), ())) (fun _ => ?_)
  rw [two22_is, Option.bind_some]
  refine nb_and (f := fun b => some ((b, ()), ())) (fun _ => ?_)
  rw [two22_is, Option.bind_some]
  refine nb_and (f := fun b => some ((b, ()), ())) (fun _ => ?_)
  unfold tailB
  refine bq_step (fun h => ?_) (fun h => ?_)
  · rw [if_pos h]
    cases (m.id == ([] : Bs)) <;> rfl
  · rw [if_neg h]
    refine ne_step (fun h0 => ?_) (fun h0 => ?_)
    · rw [decide_eq_true (show 0 < m.ae by omega), Bool.true_and, len8]
      cases h8 : decide (m.id.length = 8) with
      | false => rw [iff_, Bool.false_and]
      | true =>
        rw [ift, Bool.true_and]
        have e2 : (famF m.next == famE m.ae) = decide (famF m.next = famE m.ae) := by rw [Bool.eq_iff_iff]; simp
        rw [rfam6_is, Option.bind_some, rcfam_is, Option.bind_some]
        dsimp only
        rw [e2]
        cases (m.next == ([] : Bs)) <;> rfl
    · rw [decide_eq_false (show ¬ 0 < m.ae by omega), Bool.false_and]
theorem goodL {m : Msg} (g : Good_api_Msg m) (h : Lite m) : GoodL m := by
  obtain ⟨g1, g2, g3, g4, g5, g6, g7, g8, g9, g10, g11, g12, g13, g14, g15, g16, g17, g18, g19, g20, g21, g22, g23, _⟩ := g
  exact ⟨⟨h, g18, g15, g13, g19, g1, g16, g6, g8, g17⟩, g23, g11⟩
end Go.VP
