/- The messages of TLVs: one of them. -/
import Derived.Test.YtabekdfijifnfaaQFH
import Derived.Test.YtabekdfijifnfaaQFQ8
import Derived.Test.YtabekdfijifnfaaQPBase
import Derived.Test.YtabekdfijifnfaaQPCur
import Derived.Test.YtabekdfijifnfaaQPOct
import Derived.Test.YtabekdfijifnfaaQPTlv
import Derived.Test.YtabekdfijifnfaaQPSub
import Derived.Test.YtabekdfijifnfaaQPMsg
import Derived.Test.YtabekdfijifnfaaQPAddr
import Derived.Test.YtabekdfijifnfaaQPBits
import Derived.Test.YtabekdfijifnfaaQPField
import Derived.Test.YtabekdfijifnfaaQPFieldG
import Derived.Test.YtabekdfijifnfaaQPRoute
import Derived.Test.YtabekdfijifnfaaQPRouteG
import Derived.Test.YtabekdfijifnfaaQPTake
import Derived.Test.YtabekdfijifnfaaQPRouteB
import Derived.Test.YtabekdfijifnfaaQPCtx
import Derived.Test.YtabekdfijifnfaaQPCtxU
import Derived.Test.YtabekdfijifnfaaQPCtxV
import Derived.Test.YtabekdfijifnfaaQPCtxW
import Derived.Test.YtabekdfijifnfaaQPCtxX
set_option linter.unusedVariables false
set_option linter.unusedSimpArgs false
set_option maxRecDepth 100000
namespace Go.VP
open Go Go.VI
def opaqueM (ty : Int) (d : Bs) : Msg := ⟨14, 0, 0, [], 0, 0, [], 0, 0, [], 0, [], 0, 0, 0, 0, 0, 0, 0, [], [], [], ty, d, []⟩
def resF (c : Ctx) (x : Msg × Bool × Int) : Ctx × List Msg × Int := if x.2.2 ≠ 0 then (c, [], x.2.2) else if x.2.1 = true then (c, [x.1], 0) else (c, [], 0)
theorem res_is (c : Ctx) (x : Msg × Bool × Int) : (if (x.2.2 != 0) = true then (some ((c, [], x.2.2, ()), ()) : Option ((Ctx × List Msg × Int × Unit) × Unit)) else (if (!x.2.1) = true then some ((c, [], x.2.2, ()), ()) else some ((c, [x.1], 0, ()), ()))) = some (((resF c x).1, (resF c x).2.1, (resF c x).2.2, ()), ()) := by
  obtain ⟨m, k, e⟩ := x
  unfold resF
  dsimp only
  refine ne_step (fun h => by rw [if_pos h]) (fun h => ?_)
  rw [if_neg (show ¬ e ≠ 0 from fun q => q h)]
  cases k with
  | false => rw [ifnf, if_neg (by simp), h]
  | true => rw [ifnt, if_pos rfl]
def oneR (c : Ctx) (ty : Int) (d : Bs) : Ctx × List Msg × Int :=
  if ty = 0 ∨ ty = 1 then (c, [], 0) else if ty = 6 ∨ ty = 7 ∨ ty = 8 then stepC c ty d
  else if 2 ≤ ty ∧ ty ≤ 5 then resF c (fieldG ty d) else if ty = 9 ∨ ty = 10 then resF c (routeG ty d) else (c, [opaqueM ty d], 0)
theorem rone_is {c : Ctx} {ty at_ : Int} {d : Bs} (hc : okC c) (hd : d.length ≤ 1000) : g_ref23_one (c, ⟨ty, at_, d⟩, ()) = some (((oneR c ty d).1, (oneR c ty d).2.1, (oneR c ty d).2.2, ()), ()) := by
  have hcases : ty = 0 ∨ ty = 1 ∨ ty = 2 ∨ ty = 3 ∨ ty = 4 ∨ ty = 5 ∨ ty = 6 ∨ ty = 7 ∨ ty = 8 ∨ ty = 9 ∨ ty = 10 ∨ (ty ≠ 0 ∧ ty ≠ 1 ∧ ty ≠ 2 ∧ ty ≠ 3 ∧ ty ≠ 4 ∧ ty ≠ 5 ∧ ty ≠ 6 ∧ ty ≠ 7 ∧ ty ≠ 8 ∧ ty ≠ 9 ∧ ty ≠ 10) := by omega
  rw [g_ref23_one_eq]
  dsimp only
  rcases hcases with rfl | rfl | rfl | rfl | rfl | rfl | rfl | rfl | rfl | rfl | rfl | ⟨h0, h1, h2, h3, h4, h5, h6, h7, h8, h9, h10⟩
  · rfl
  · rfl
  · simp only [Int.reduceBEq, Bool.false_eq_true, if_false, if_true]
    rw [rgetF_is hd (by decide), Option.bind_some]
    exact res_is c _
  · simp only [Int.reduceBEq, Bool.false_eq_true, if_false, if_true]
    rw [rgetF_is hd (by decide), Option.bind_some]
    exact res_is c _
  · simp only [Int.reduceBEq, Bool.false_eq_true, if_false, if_true]
    rw [rgetF_is hd (by decide), Option.bind_some]
    exact res_is c _
  · simp only [Int.reduceBEq, Bool.false_eq_true, if_false, if_true]
    rw [rgetF_is hd (by decide), Option.bind_some]
    exact res_is c _
  · simp only [Int.reduceBEq, Bool.false_eq_true, if_false, if_true]
    rw [rcstep_is hc hd (by decide), Option.bind_some]; rfl
  · simp only [Int.reduceBEq, Bool.false_eq_true, if_false, if_true]
    rw [rcstep_is hc hd (by decide), Option.bind_some]; rfl
  · simp only [Int.reduceBEq, Bool.false_eq_true, if_false, if_true]
    rw [rcstep_is hc hd (by decide), Option.bind_some]; rfl
  · simp only [Int.reduceBEq, Bool.false_eq_true, if_false, if_true]
    rw [rgetR_is hd (by decide), Option.bind_some]
    exact res_is c _
  · simp only [Int.reduceBEq, Bool.false_eq_true, if_false, if_true]
    rw [rgetR_is hd (by decide), Option.bind_some]
    exact res_is c _
  · have e : ∀ k : Int, ty ≠ k → (ty == k) = false := fun k h => by simpa using h
    simp only [e _ h0, e _ h1, e _ h2, e _ h3, e _ h4, e _ h5, e _ h6, e _ h7, e _ h8, e _ h9, e _ h10, Bool.false_eq_true, if_false]
    unfold oneR
    rw [if_neg (by omega), if_neg (by omega), if_neg (by omega), if_neg (by omega)]; rfl
end Go.VP
