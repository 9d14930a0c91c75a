/- The messages of TLVs, one by one. -/
import Derived.Test.YtngoadonappnnaaPBase
import Derived.Test.YtngoadonappnnaaPCur
import Derived.Test.YtngoadonappnnaaPOct
import Derived.Test.YtngoadonappnnaaPTlv
import Derived.Test.YtngoadonappnnaaPSub
import Derived.Test.YtngoadonappnnaaPMsg
import Derived.Test.YtngoadonappnnaaPAddr
import Derived.Test.YtngoadonappnnaaPBits
import Derived.Test.YtngoadonappnnaaPField
import Derived.Test.YtngoadonappnnaaPFieldG
import Derived.Test.YtngoadonappnnaaPRoute
import Derived.Test.YtngoadonappnnaaPRouteG
import Derived.Test.YtngoadonappnnaaPTake
import Derived.Test.YtngoadonappnnaaPRouteB
import Derived.Test.YtngoadonappnnaaPCtx
import Derived.Test.YtngoadonappnnaaPCtxU
import Derived.Test.YtngoadonappnnaaPCtxV
import Derived.Test.YtngoadonappnnaaPCtxW
import Derived.Test.YtngoadonappnnaaPCtxX
import Derived.Test.YtngoadonappnnaaPIntake
set_option linter.unusedVariables false
set_option linter.unusedSimpArgs false
set_option maxRecDepth 100000
namespace Go.VP
open Go Go.VI
theorem resF_cl (c : Ctx) (x : Msg × Bool × Int) : (resF c x).1 = c ∧ (resF c x).2.1.length ≤ 1 := by
  unfold resF; split
  · exact ⟨rfl, by simp⟩
  split <;> exact ⟨rfl, by simp⟩
theorem updF_len (c : Ctx) (d : Bs) : (updF c d).2.1.length ≤ 1 := by
  unfold updF; split
  · split
    · split <;> simp
    · simp
  · simp
theorem okC_one {c : Ctx} {ty : Int} {d : Bs} (h : okC c) : okC (oneR c ty d).1 ∧ (oneR c ty d).2.1.length ≤ 1 := by
  unfold oneR
  split
  · exact ⟨h, by simp⟩
  split
  · refine ⟨okC_step h, ?_⟩
    unfold stepC
    split
    · simp
    split
    · simp
    split
    · exact updF_len c d
    · simp
  split
  · have := resF_cl c (fieldG ty d); exact ⟨by rw [this.1]; exact h, this.2⟩
  split
  · have := resF_cl c (routeG ty d); exact ⟨by rw [this.1]; exact h, this.2⟩
  · exact ⟨h, by simp⟩
def c0 : Ctx := ⟨[], [], [], [], [], [], []⟩
def foldR : Ctx → List Tlv → List Msg → List Msg × Ctx × Int × Int
  | c, [], acc => (acc, c, 0, 0)
  | c, t :: r, acc => if (oneR c t.type_ t.data).2.2 ≠ 0 then ([], c0, t.at_, (oneR c t.type_ t.data).2.2) else foldR (oneR c t.type_ t.data).1 r (acc ++ (oneR c t.type_ t.data).2.1)
theorem msgBo2 : bo_api_Msg ≤ 100000 := Nat.le_of_ble_eq_true (by kernel_rfl)
theorem okC_c0 : okC c0 := okC_none
end Go.VP
