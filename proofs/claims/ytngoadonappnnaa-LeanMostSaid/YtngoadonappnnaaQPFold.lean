/- The messages of TLVs, one by one. -/
import Derived.Test.YtngoadonappnnaaQPBase
import Derived.Test.YtngoadonappnnaaQPCur
import Derived.Test.YtngoadonappnnaaQPOct
import Derived.Test.YtngoadonappnnaaQPTlv
import Derived.Test.YtngoadonappnnaaQPSub
import Derived.Test.YtngoadonappnnaaQPMsg
import Derived.Test.YtngoadonappnnaaQPAddr
import Derived.Test.YtngoadonappnnaaQPBits
import Derived.Test.YtngoadonappnnaaQPField
import Derived.Test.YtngoadonappnnaaQPFieldG
import Derived.Test.YtngoadonappnnaaQPRoute
import Derived.Test.YtngoadonappnnaaQPRouteG
import Derived.Test.YtngoadonappnnaaQPTake
import Derived.Test.YtngoadonappnnaaQPRouteB
import Derived.Test.YtngoadonappnnaaQPCtx
import Derived.Test.YtngoadonappnnaaQPCtxU
import Derived.Test.YtngoadonappnnaaQPCtxV
import Derived.Test.YtngoadonappnnaaQPCtxW
import Derived.Test.YtngoadonappnnaaQPCtxX
import Derived.Test.YtngoadonappnnaaQPIntake
set_option linter.unusedVariables false
set_option linter.unusedSimpArgs false
set_option maxRecDepth 100000
namespace Go.VP
open Go Go.VI
theorem resF_cl (c : Ctx) (x : Msg × Bool × Int) : (resF c x).1 = c ∧ (resF c x).2.1.length ≤ 1 := by
  unfold resF; split
  · exact ⟨rfl, by simp⟩
  split <;> exact ⟨rfl, by simp⟩
theorem updF_len (c : Ctx) (d : Bs) : (updF c d).2.1.length ≤ 1 := by
  unfold updF; split
  · split
    · split <;> simp
    · simp
  · simp
theorem okC_one {c : Ctx} {ty : Int} {d : Bs} (h : okC c) : okC (oneR c ty d).1 ∧ (oneR c ty d).2.1.length ≤ 1 := by
  unfold oneR
  split
  · exact ⟨h, by simp⟩
  split
  · refine ⟨okC_step h, ?_⟩
    unfold stepC
    split
    · simp
    split
    · simp
    split
    · exact updF_len c d
    · simp
  split
  · have := resF_cl c (fieldG ty d); exact ⟨by rw [this.1]; exact h, this.2⟩
  split
  · have := resF_cl c (routeG ty d); exact ⟨by rw [this.1]; exact h, this.2⟩
  · exact ⟨h, by simp⟩
def c0 : Ctx := ⟨[], [], [], [], [], [], []⟩
def foldR : Ctx → List Tlv → List Msg → List Msg × Ctx × Int × Int
  | c, [], acc => (acc, c, 0, 0)
  | c, t :: r, acc => if (oneR c t.type_ t.data).2.2 ≠ 0 then ([], c0, t.at_, (oneR c t.type_ t.data).2.2) else foldR (oneR c t.type_ t.data).1 r (acc ++ (oneR c t.type_ t.data).2.1)
theorem msgBo2 : bo_api_Msg ≤ 100000 := Nat.le_of_ble_eq_true (by kernel_rfl)
end Go.VP
