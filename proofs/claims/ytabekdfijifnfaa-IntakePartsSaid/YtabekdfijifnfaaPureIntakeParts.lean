/- The TLVs of a body in two parts: for all arguments. -/
import Derived.Test.YtabekdfijifnfaaFQ12
import Derived.Test.YtabekdfijifnfaaPBase
import Derived.Test.YtabekdfijifnfaaPCur
import Derived.Test.YtabekdfijifnfaaPOct
import Derived.Test.YtabekdfijifnfaaPTlv
import Derived.Test.YtabekdfijifnfaaPSub
import Derived.Test.YtabekdfijifnfaaPMsg
import Derived.Test.YtabekdfijifnfaaPAll
import Derived.Test.YtabekdfijifnfaaPBody
import Derived.Test.YtabekdfijifnfaaPOk
import Derived.Test.YtabekdfijifnfaaPAddr
import Derived.Test.YtabekdfijifnfaaPBits
import Derived.Test.YtabekdfijifnfaaPField
import Derived.Test.YtabekdfijifnfaaPFieldG
import Derived.Test.YtabekdfijifnfaaPFieldB
import Derived.Test.YtabekdfijifnfaaPRoute
import Derived.Test.YtabekdfijifnfaaPRouteG
import Derived.Test.YtabekdfijifnfaaPTake
import Derived.Test.YtabekdfijifnfaaPRouteB
import Derived.Test.YtabekdfijifnfaaPCtx
import Derived.Test.YtabekdfijifnfaaPCtxU
import Derived.Test.YtabekdfijifnfaaPCtxV
import Derived.Test.YtabekdfijifnfaaPCtxW
import Derived.Test.YtabekdfijifnfaaPCtxX
import Derived.Test.YtabekdfijifnfaaPIntake
import Derived.Test.YtabekdfijifnfaaPFold
import Derived.Test.YtabekdfijifnfaaPParts
import Derived.Test.YtabekdfijifnfaaPUpd
import Derived.Test.YtabekdfijifnfaaPLeanR
import Derived.Test.YtabekdfijifnfaaPIntakeL
import Derived.Test.YtabekdfijifnfaaFGood
set_option linter.unusedVariables false
set_option linter.unusedSimpArgs false
set_option maxRecDepth 100000
namespace Go.VP
open Go Go.VI
theorem parts_tail {l : List Tlv} {x1 : Int} (hx : 0 ≤ x1 ∧ x1 ≤ 255) (hl : l.length ≤ 40) (hq : ∀ t ∈ l, Tg t) (n m : Nat) : L_law23_IntakeParts_0 n (m + 1) l x1 l.length = some ((true, ()), ()) := by
  have h1000 : ∀ t ∈ l, t.data.length ≤ 1000 := fun t ht => by have := (hq t ht).2; omega
  have hmod : (IntKind.wrap .i64 x1).tmod (IntKind.wrap .i64 ((l.length : Int) + 1)) = x1 % (l.length + 1) := by
    rw [w64 (by omega) (by omega), w64 (by omega) (by omega), Int.tmod_eq_emod_of_nonneg (by omega)]
  obtain ⟨k, hk⟩ : ∃ k : Nat, x1 % ((l.length : Int) + 1) = (k : Int) := ⟨(x1 % ((l.length : Int) + 1)).toNat, by have := Int.emod_nonneg x1 (show (l.length : Int) + 1 ≠ 0 by omega); omega⟩
  have hkl : k ≤ l.length := by have := Int.emod_lt_of_pos x1 (show 0 < (l.length : Int) + 1 by omega); omega
  rw [L_law23_IntakeParts_0_eq, ifn (by omega), if_pos (by rw [w64 (by omega) (by omega)]; omega), hmod, hk, if_pos (by omega), Int.toNat_natCast]
  have hq1 : ∀ t ∈ l.take k, Tg t := fun t ht => hq t (List.mem_of_mem_take ht)
  rw [fold_is (l := l.take k) (by rw [List.length_take]; omega) (fun t ht => h1000 t (List.mem_of_mem_take ht)), Option.bind_some, fold_is (by omega) h1000, Option.bind_some]
  dsimp only
  obtain ⟨e1, e2⟩ := foldR_len (l.take k) c0 [] okC_c0
  have hs := fold_right okC_c0 hq1
  have hbad := foldR_bad (l.take k) (l.drop k) c0 []
  have happ := foldR_app (l.take k) (l.drop k) c0 []
  rw [List.take_append_drop] at hbad happ
  refine ne_step (fun he => ?_) (fun he => ?_)
  · rw [awb23]
    dsimp only
    rw [ift, hbad he, if_pos (by simp), if_pos (by simp), (foldR_err _ _ _ he).1]; rfl
  refine ne_step (fun hf => ?_) (fun hf => ?_)
  · rw [awb23]
    dsimp only
    rw [ift, (foldR_err _ _ _ hf).1]; rfl
  have ha := happ he
  rw [ha] at hf ⊢
  obtain ⟨a1, a2⟩ := foldR_acc (l.drop k) (foldR c0 (l.take k) []).2.1 (foldR c0 (l.take k) []).1
  have ha2 := a2 (by rw [← a1]; exact hf)
  obtain ⟨b1, _⟩ := foldR_len (l.drop k) (foldR c0 (l.take k) []).2.1 [] e2
  rw [ha2]
  simp only [List.length_take, List.length_drop, List.length_nil] at e1 b1
  rw [awb23]
  dsimp only
  have hLL : ((foldR c0 (l.take k) []).1 ++ (foldR (foldR c0 (l.take k) []).2.1 (l.drop k) []).1).length = (foldR c0 (l.take k) []).1.length + (foldR (foldR c0 (l.take k) []).2.1 (l.drop k) []).1.length := List.length_append
  rw [ift, ifd (by omega), w64 (x := ((foldR c0 (l.take k) []).1.length : Int) + (l.length : Int)) (by omega) (by omega), w64 (by omega) (by omega), ifd (by omega), if_pos (by omega), Int.toNat_natCast, List.take_left, sameA_is (by omega) (fun m hm => (hs m hm).2.small)]; rfl
theorem parts_go {l : List Tlv} {x1 : Int} (hx : 0 ≤ x1 ∧ x1 ≤ 255) {n : Nat} (hl : l.length ≤ 40) : ∀ (d m i : Nat), i + d = l.length → d < m → (∀ t ∈ l.take i, Tg t) → L_law23_IntakeParts_0 n m l x1 i = some ((true, ()), ()) := by
  intro d
  induction d with
  | zero =>
    intro m i hd hm hq
    obtain ⟨m, rfl⟩ : ∃ k, m = k + 1 := ⟨m - 1, by omega⟩
    rw [List.take_of_length_le (by omega)] at hq
    obtain rfl : i = l.length := by omega
    exact parts_tail hx hl hq n m
  | succ d ih =>
    intro m i hd hm hq
    obtain ⟨m, rfl⟩ : ∃ k, m = k + 1 := ⟨m - 1, by omega⟩
    have hi : i < l.length := by omega
    have hp : 0 ≤ (i : Int) := by omega
    have := ih m (i + 1) (by omega) (by omega)
    rw [show ((i + 1 : Nat) : Int) = (i : Int) + 1 by omega] at this
    rw [L_law23_IntakeParts_0_eq, ifd (by omega)]
    simp only [if_pos hp, Int.toNat_natCast, List.getElem?_eq_getElem hi, Option.bind_some]
    refine dq_body (fun h => awb23 _) (fun h1 => ?_)
    refine dq_body (fun h => awb23 _) (fun h2 => ?_)
    refine dq_body (fun h => awb23 _) (fun h3 => ?_)
    rw [w64 (by omega) (by omega)]
    exact this (tg_take hi hq h1 h2 h3)
theorem intakeParts_pure (x0 : List S_api_Tlv) (g0 : Good_list_api_Tlv x0) (x1 : Int) (g1 : Good_uint8 x1) : g_law23_IntakeParts (x0, x1, ()) = some ((true, ()), ()) := by
  have hx : 0 ≤ x1 ∧ x1 ≤ 255 := has8.1 g1.1
  show h_law23_IntakeParts fuel (x0, x1, ()) = _
  rw [h_law23_IntakeParts_eq]
  refine dq_body (fun h => awb23 _) (fun h => ?_)
  exact parts_go (n := fuel) hx (by omega) x0.length fuel 0 (by omega) (fuel_ge (by omega)) (fun t ht => by simp at ht)
end Go.VP
