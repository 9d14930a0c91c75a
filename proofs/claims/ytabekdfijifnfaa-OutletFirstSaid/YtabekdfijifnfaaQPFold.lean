/- The messages of TLVs, one by one. -/
import Derived.Test.YtabekdfijifnfaaQFH
import Derived.Test.YtabekdfijifnfaaQFQ9
import Derived.Test.YtabekdfijifnfaaQPBase
import Derived.Test.YtabekdfijifnfaaQPCur
import Derived.Test.YtabekdfijifnfaaQPOct
import Derived.Test.YtabekdfijifnfaaQPTlv
import Derived.Test.YtabekdfijifnfaaQPSub
import Derived.Test.YtabekdfijifnfaaQPMsg
import Derived.Test.YtabekdfijifnfaaQPAddr
import Derived.Test.YtabekdfijifnfaaQPBits
import Derived.Test.YtabekdfijifnfaaQPField
import Derived.Test.YtabekdfijifnfaaQPFieldG
import Derived.Test.YtabekdfijifnfaaQPRoute
import Derived.Test.YtabekdfijifnfaaQPRouteG
import Derived.Test.YtabekdfijifnfaaQPTake
import Derived.Test.YtabekdfijifnfaaQPRouteB
import Derived.Test.YtabekdfijifnfaaQPCtx
import Derived.Test.YtabekdfijifnfaaQPCtxU
import Derived.Test.YtabekdfijifnfaaQPCtxV
import Derived.Test.YtabekdfijifnfaaQPCtxW
import Derived.Test.YtabekdfijifnfaaQPCtxX
import Derived.Test.YtabekdfijifnfaaQPIntake
set_option linter.unusedVariables false
set_option linter.unusedSimpArgs false
set_option maxRecDepth 100000
namespace Go.VP
open Go Go.VI
theorem resF_cl (c : Ctx) (x : Msg × Bool × Int) : (resF c x).1 = c ∧ (resF c x).2.1.length ≤ 1 := by
  unfold resF; split
  · exact ⟨rfl, by simp⟩
  split <;> exact ⟨rfl, by simp⟩
theorem updF_len (c : Ctx) (d : Bs) : (updF c d).2.1.length ≤ 1 := by
  unfold updF; split
  · split
    · split <;> simp
    · simp
  · simp
theorem okC_one {c : Ctx} {ty : Int} {d : Bs} (h : okC c) : okC (oneR c ty d).1 ∧ (oneR c ty d).2.1.length ≤ 1 := by
  unfold oneR
  split
  · exact ⟨h, by simp⟩
  split
  · refine ⟨okC_step h, ?_⟩
    unfold stepC
    split
    · simp
    split
    · simp
    split
    · exact updF_len c d
    · simp
  split
  · have := resF_cl c (fieldG ty d); exact ⟨by rw [this.1]; exact h, this.2⟩
  split
  · have := resF_cl c (routeG ty d); exact ⟨by rw [this.1]; exact h, this.2⟩
  · exact ⟨h, by simp⟩
def c0 : Ctx := ⟨[], [], [], [], [], [], []⟩
def foldR : Ctx → List Tlv → List Msg → List Msg × Ctx × Int × Int
  | c, [], acc => (acc, c, 0, 0)
  | c, t :: r, acc => if (oneR c t.type_ t.data).2.2 ≠ 0 then ([], c0, t.at_, (oneR c t.type_ t.data).2.2) else foldR (oneR c t.type_ t.data).1 r (acc ++ (oneR c t.type_ t.data).2.1)
theorem msgBo2 : bo_api_Msg ≤ 100000 := Nat.le_of_ble_eq_true (by kernel_rfl)
theorem rfold_loop {n : Nat} {l : List Tlv} (hl : l.length ≤ 100000) (hd : ∀ t ∈ l, t.data.length ≤ 1000) : ∀ (k m i : Nat) (c : Ctx) (acc : List Msg), i + k = l.length → k < m → okC c → acc.length ≤ i →
    L_ref23_Fold_0 n m l acc c.prefix_c0 c.prefix_c1 c.prefix_c2 c.prefix_c3 c.next_c0 c.next_c1 c.id i = some (((foldR c (l.drop i) acc).1, (foldR c (l.drop i) acc).2.1, (foldR c (l.drop i) acc).2.2.1, (foldR c (l.drop i) acc).2.2.2, ()), ()) := by
  intro k
  induction k with
  | zero =>
    intro m i c acc h hm hc ha
    obtain ⟨m, rfl⟩ : ∃ k, m = k + 1 := ⟨m - 1, by omega⟩
    rw [L_ref23_Fold_0_eq, ifn (by omega), List.drop_eq_nil_of_le (by omega)]; rfl
  | succ k ih =>
    intro m i c acc h hm hc ha
    obtain ⟨m, rfl⟩ : ∃ k, m = k + 1 := ⟨m - 1, by omega⟩
    have hi : i < l.length := by omega
    have h1 := rone_is (at_ := l[i].at_) (ty := l[i].type_) hc (hd _ (List.getElem_mem hi))
    obtain ⟨o1, o2⟩ := okC_one (ty := l[i].type_) (d := l[i].data) hc
    have := ih m (i + 1) _ (acc ++ (oneR c l[i].type_ l[i].data).2.1) (by omega) (by omega) o1 (by rw [List.length_append]; omega)
    rw [show ((i + 1 : Nat) : Int) = (i : Int) + 1 by omega] at this
    have hp : 0 ≤ (i : Int) := by omega
    have hbo := msgBo2
    rw [L_ref23_Fold_0_eq, ifd (by omega), if_pos hp, Int.toNat_natCast, bind_at hi, List.drop_eq_getElem_cons hi, foldR]
    rw [show (S_api_Ctx.mk c.prefix_c0 c.prefix_c1 c.prefix_c2 c.prefix_c3 c.next_c0 c.next_c1 c.id) = c from rfl, h1, Option.bind_some]
    dsimp only
    refine ne_step (fun he => ?_) (fun he => ?_)
    · rw [if_pos hp, bind_at hi, if_pos he]; rfl
    · rw [if_pos (roomB_of (Nat.le_trans (Nat.mul_le_mul (show acc.length + (oneR c l[i].type_ l[i].data).2.1.length ≤ 100001 by omega) hbo) (by decide))), w64 (by omega) (by omega), this, if_neg (fun q => q he)]
theorem okC_c0 : okC c0 := okC_none
theorem rfold_is {l : List Tlv} (hl : l.length ≤ 100000) (hd : ∀ t ∈ l, t.data.length ≤ 1000) : g_ref23_Fold (l, ()) = some (((foldR c0 l []).1, (foldR c0 l []).2.1, (foldR c0 l []).2.2.1, (foldR c0 l []).2.2.2, ()), ()) := by
  show h_ref23_Fold fuel (l, ()) = _
  rw [h_ref23_Fold_eq]
  exact rfold_loop (n := fuel) hl hd l.length fuel 0 c0 [] (by omega) (fuel_ge (by omega)) okC_c0 (by simp)
end Go.VP
