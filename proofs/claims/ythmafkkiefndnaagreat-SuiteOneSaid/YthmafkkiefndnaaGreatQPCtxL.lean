/- What a parser of Babel knows: Updates that may be, by program and document; the laws' example; bytes that are left out. -/
import Derived.Test.YthmafkkiefndnaaGreatQFQ5
import Derived.Test.YthmafkkiefndnaaGreatQFQ7
import Derived.Test.YthmafkkiefndnaaGreatQFH
import Derived.Test.YthmafkkiefndnaaGreatQPBase
import Derived.Test.YthmafkkiefndnaaGreatQPCur
import Derived.Test.YthmafkkiefndnaaGreatQPOct
import Derived.Test.YthmafkkiefndnaaGreatQPTlv
import Derived.Test.YthmafkkiefndnaaGreatQPSub
import Derived.Test.YthmafkkiefndnaaGreatQPMsg
import Derived.Test.YthmafkkiefndnaaGreatQPAll
import Derived.Test.YthmafkkiefndnaaGreatQPAddr
import Derived.Test.YthmafkkiefndnaaGreatQPBits
import Derived.Test.YthmafkkiefndnaaGreatQPField
import Derived.Test.YthmafkkiefndnaaGreatQPFieldB
import Derived.Test.YthmafkkiefndnaaGreatQPRoute
import Derived.Test.YthmafkkiefndnaaGreatQPRouteG
import Derived.Test.YthmafkkiefndnaaGreatQFQ3
import Derived.Test.YthmafkkiefndnaaGreatQPCtx
import Derived.Test.YthmafkkiefndnaaGreatQPCtxU
import Derived.Test.YthmafkkiefndnaaGreatQFQ2
import Derived.Test.YthmafkkiefndnaaGreatQPFold
import Derived.Test.YthmafkkiefndnaaGreatQPParts
import Derived.Test.YthmafkkiefndnaaGreatQPUpd
import Derived.Test.YthmafkkiefndnaaGreatQPLeanR
set_option linter.unusedVariables false
set_option linter.unusedSimpArgs false
set_option maxRecDepth 100000
namespace Go.VP
open Go Go.VI
theorem either_is (s : Bs) (g : Bool) : g_ctx_either (s, g, ()) = some ((decide (s = []) || g, ()), ()) := by
  rw [g_ctx_either_eq]
  refine be_step (fun h => by simp [h]) (fun h => by simp [h])
theorem nb_and {R : Type} {b S : Bool} {t : Option R} {f : Bool → Option R} (h : b = true → t = f S) : (if (!b) = true then f false else t) = f (b && S) := by
  cases b with
  | true => rw [ifnt, Bool.true_and]; exact h rfl
  | false => rw [ifnf, Bool.false_and]
theorem fits2 {n : Int} (hn : IntKind.has .i64 n) : g_octet_Fits (n, 2, ()) = some ((fitsB n 2, ()), ()) := fits_is (k := 2) hn (by omega) (by omega)
theorem fewS_of {m : Msg} (g : GoodM m) : FewS m.subs := g.few.fewS
theorem cright_is {m : Msg} (g : GoodL m) : g_ctx_Right (m, ()) = some ((updB m, ()), ()) := by
  have hl := g.good.few
  have := hl.id; have := hl.next; have := hl.pre
  rw [g_ctx_Right_eq]
  unfold updB
  refine ne_step (fun h => by rw [decide_eq_false h, Bool.false_and]) (fun h => ?_)
  rw [decide_eq_true h, Bool.true_and, bare_is, Option.bind_some]
  dsimp only
  refine nb_and (f := fun b => some ((b, ()), ())) (fun _ => ?_)
  rw [sright_is (fewS_of g.good), Option.bind_some]
  refine nb_and (f := fun b => some ((b, ()), ())) (fun _ => ?_)
  rw [in_is (by omega) g.good.plen, Option.bind_some]
  refine nb_and (f := fun b => some ((b, ()), ())) (fun _ => ?_)
  rw [fits2 g.good.interval, Option.bind_some]
  refine nb_and (f := fun b => some ((b, ()), ())) (fun _ => ?_)
  rw [fits2 g.good.seq, Option.bind_some]
  refine nb_and (f := fun b => some ((b, ()), ())) (fun _ => ?_)
  rw [fits2 g.metric, Option.bind_some]
  refine nb_and (f := fun b => some ((b, ()), ())) (fun _ => ?_)
  unfold tailB
  refine bq_step (fun h => ?_) (fun h => ?_)
  · rw [if_pos h, if_pos (maxB_of (by omega))]
    have : (m.id ++ m.next == ([] : Bs)) = (m.id == [] && m.next == []) := by
      rw [Bool.eq_iff_iff]; simp
    rw [this]
  · rw [if_neg h]
    by_cases ha : 0 < m.ae
    · rw [ifd ha, decide_eq_true ha, Bool.true_and, len8]
      cases h8 : decide (m.id.length = 8) with
      | false => rw [iff_, Bool.false_and]
      | true =>
        rw [ift, fam_is, Option.bind_some, cfam_is, Option.bind_some, either_is, Option.bind_some, Bool.true_and]
        have e1 : (m.next == ([] : Bs)) = decide (m.next = []) := by rw [Bool.eq_iff_iff]; simp
        have e2 : (famF m.next == famE m.ae) = decide (famF m.next = famE m.ae) := by rw [Bool.eq_iff_iff]; simp
        rw [e1]
        dsimp only
        rw [e2]
    · rw [ifn ha, decide_eq_false ha, Bool.false_and]
theorem goodL {m : Msg} (g : Good_api_Msg m) (h : Lite m) : GoodL m := by
  obtain ⟨g1, g2, g3, g4, g5, g6, g7, g8, g9, g10, g11, g12, g13, g14, g15, g16, g17, g18, g19, g20, g21, g22, g23, _⟩ := g
  exact ⟨⟨h, g18, g15, g13, g19, g1, g16, g6, g8, g17⟩, g23, g11⟩
end Go.VP
