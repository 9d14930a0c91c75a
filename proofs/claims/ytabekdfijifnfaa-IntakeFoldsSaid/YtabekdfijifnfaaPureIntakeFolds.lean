/- The messages of any TLVs, and what is known behind them, are the document's: for all arguments. -/
import Derived.Test.YtabekdfijifnfaaFQ12
import Derived.Test.YtabekdfijifnfaaPBase
import Derived.Test.YtabekdfijifnfaaPCur
import Derived.Test.YtabekdfijifnfaaPOct
import Derived.Test.YtabekdfijifnfaaPTlv
import Derived.Test.YtabekdfijifnfaaPSub
import Derived.Test.YtabekdfijifnfaaPMsg
import Derived.Test.YtabekdfijifnfaaPAll
import Derived.Test.YtabekdfijifnfaaPBody
import Derived.Test.YtabekdfijifnfaaPOk
import Derived.Test.YtabekdfijifnfaaPAddr
import Derived.Test.YtabekdfijifnfaaPBits
import Derived.Test.YtabekdfijifnfaaPField
import Derived.Test.YtabekdfijifnfaaPFieldG
import Derived.Test.YtabekdfijifnfaaPFieldB
import Derived.Test.YtabekdfijifnfaaPRoute
import Derived.Test.YtabekdfijifnfaaPRouteG
import Derived.Test.YtabekdfijifnfaaPTake
import Derived.Test.YtabekdfijifnfaaPRouteB
import Derived.Test.YtabekdfijifnfaaPCtx
import Derived.Test.YtabekdfijifnfaaPCtxU
import Derived.Test.YtabekdfijifnfaaPCtxV
import Derived.Test.YtabekdfijifnfaaPCtxW
import Derived.Test.YtabekdfijifnfaaPCtxX
import Derived.Test.YtabekdfijifnfaaPIntake
import Derived.Test.YtabekdfijifnfaaPFold
import Derived.Test.YtabekdfijifnfaaPParts
import Derived.Test.YtabekdfijifnfaaPUpd
import Derived.Test.YtabekdfijifnfaaPLeanR
import Derived.Test.YtabekdfijifnfaaPIntakeL
import Derived.Test.YtabekdfijifnfaaFGood
set_option linter.unusedVariables false
set_option linter.unusedSimpArgs false
set_option maxRecDepth 100000
namespace Go.VP
open Go Go.VI
theorem folds_go {l : List Tlv} {n : Nat} (hl : l.length ≤ 40) : ∀ (d m i : Nat), i + d = l.length → d < m → (∀ t ∈ l.take i, Tg t) → L_law23_IntakeFolds_0 n m l i = some ((true, ()), ()) := by
  intro d
  induction d with
  | zero =>
    intro m i hd hm hq
    obtain ⟨m, rfl⟩ : ∃ k, m = k + 1 := ⟨m - 1, by omega⟩
    rw [List.take_of_length_le (by omega)] at hq
    have h1000 : ∀ t ∈ l, t.data.length ≤ 1000 := fun t ht => by have := (hq t ht).2; omega
    obtain ⟨k1, k2⟩ := foldR_len l c0 [] okC_c0
    simp at k1
    rw [L_law23_IntakeFolds_0_eq, ifn (by omega), fold_is (by omega) h1000, Option.bind_some, rfold_is (by omega) h1000, Option.bind_some, awb23]
    dsimp only
    rw [ift, sameA_is (by omega) (fun m hm => ((fold_right okC_c0 hq) m hm).2.small), Option.bind_some]
    dsimp only
    rw [ift, ctx_eqs, ift, if_pos (by simp), if_pos (by simp), rok_is, okB_iff.2 k2]; rfl
  | succ d ih =>
    intro m i hd hm hq
    obtain ⟨m, rfl⟩ : ∃ k, m = k + 1 := ⟨m - 1, by omega⟩
    have hi : i < l.length := by omega
    have hp : 0 ≤ (i : Int) := by omega
    have := ih m (i + 1) (by omega) (by omega)
    rw [show ((i + 1 : Nat) : Int) = (i : Int) + 1 by omega] at this
    rw [L_law23_IntakeFolds_0_eq, ifd (by omega)]
    simp only [if_pos hp, Int.toNat_natCast, List.getElem?_eq_getElem hi, Option.bind_some]
    refine dq_body (fun h => awb23 _) (fun h1 => ?_)
    refine dq_body (fun h => awb23 _) (fun h2 => ?_)
    refine dq_body (fun h => awb23 _) (fun h3 => ?_)
    rw [w64 (by omega) (by omega)]
    exact this (tg_take hi hq h1 h2 h3)
theorem intakeFolds_pure (x0 : List S_api_Tlv) (g0 : Good_list_api_Tlv x0) : g_law23_IntakeFolds (x0, ()) = some ((true, ()), ()) := by
  show h_law23_IntakeFolds fuel (x0, ()) = _
  rw [h_law23_IntakeFolds_eq]
  refine dq_body (fun h => awb23 _) (fun h => ?_)
  exact folds_go (n := fuel) (by omega) x0.length fuel 0 (by omega) (fuel_ge (by omega)) (fun t ht => by simp at ht)
end Go.VP
