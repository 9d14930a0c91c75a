/- TLV by TLV what is known, and what is told, are the document's, and may be: for all arguments. -/
import Derived.Test.YtngoadonappnnaaFQ9
import Derived.Test.YtngoadonappnnaaPBase
import Derived.Test.YtngoadonappnnaaPCur
import Derived.Test.YtngoadonappnnaaPOct
import Derived.Test.YtngoadonappnnaaPTlv
import Derived.Test.YtngoadonappnnaaPSub
import Derived.Test.YtngoadonappnnaaPMsg
import Derived.Test.YtngoadonappnnaaPAll
import Derived.Test.YtngoadonappnnaaPAddr
import Derived.Test.YtngoadonappnnaaPBits
import Derived.Test.YtngoadonappnnaaPField
import Derived.Test.YtngoadonappnnaaPFieldG
import Derived.Test.YtngoadonappnnaaPFieldB
import Derived.Test.YtngoadonappnnaaPRoute
import Derived.Test.YtngoadonappnnaaPRouteG
import Derived.Test.YtngoadonappnnaaPTake
import Derived.Test.YtngoadonappnnaaPRouteB
import Derived.Test.YtngoadonappnnaaPCtx
import Derived.Test.YtngoadonappnnaaPCtxU
import Derived.Test.YtngoadonappnnaaPOk
import Derived.Test.YtngoadonappnnaaPCtxV
import Derived.Test.YtngoadonappnnaaPCtxW
import Derived.Test.YtngoadonappnnaaPCtxX
import Derived.Test.YtngoadonappnnaaPIntake
import Derived.Test.YtngoadonappnnaaPFold
import Derived.Test.YtngoadonappnnaaPParts
import Derived.Test.YtngoadonappnnaaPUpd
import Derived.Test.YtngoadonappnnaaPLeanR
import Derived.Test.YtngoadonappnnaaPCtxL
import Derived.Test.YtngoadonappnnaaFGood
set_option linter.unusedVariables false
set_option linter.unusedSimpArgs false
set_option maxRecDepth 100000
namespace Go.VP
open Go Go.VI
theorem cfolds_go {l : List Tlv} {n : Nat} (hl : l.length ≤ 40) : ∀ (d m i : Nat) (c : Ctx), i + d = l.length → d < m → okC c → L_law22_CtxFolds_0 n m l c.prefix_c0 c.prefix_c1 c.prefix_c2 c.prefix_c3 c.next_c0 c.next_c1 c.id c.prefix_c0 c.prefix_c1 c.prefix_c2 c.prefix_c3 c.next_c0 c.next_c1 c.id i = some ((true, ()), ()) := by
  intro d
  induction d with
  | zero =>
    intro m i c hd hm hc
    obtain ⟨m, rfl⟩ : ∃ k, m = k + 1 := ⟨m - 1, by omega⟩
    rw [L_law22_CtxFolds_0_eq, ifn (by omega)]
    exact awb22 _
  | succ d ih =>
    intro m i c hd hm hc
    obtain ⟨m, rfl⟩ : ∃ k, m = k + 1 := ⟨m - 1, by omega⟩
    have hi : i < l.length := by omega
    have hp : 0 ≤ (i : Int) := by omega
    have ih' := fun c => ih m (i + 1) c (by omega) (by omega)
    rw [show ((i + 1 : Nat) : Int) = (i : Int) + 1 by omega] at ih'
    rw [L_law22_CtxFolds_0_eq, ifd (by omega), w64 (by omega) (by omega)]
    simp only [if_pos hp, Int.toNat_natCast, List.getElem?_eq_getElem hi, Option.bind_some]
    refine dq_step' (fun _ => ih' c hc) (fun h1 => ?_)
    refine dq_step' (fun _ => ih' c hc) (fun h2 => ?_)
    refine dq_step' (fun _ => ih' c hc) (fun h3 => ?_)
    generalize l[i] = t at *
    obtain ⟨ty, at_, d⟩ := t
    dsimp only at h1 h2 h3
    rw [show (S_api_Ctx.mk c.prefix_c0 c.prefix_c1 c.prefix_c2 c.prefix_c3 c.next_c0 c.next_c1 c.id) = c from rfl, cstep_is hc (by omega), Option.bind_some, rcstep_is hc (by omega) (by omega), Option.bind_some]
    have hk : okC (stepC c ty d).1 := okC_step hc
    have he := @stepC_err c ty d
    have hcs := stepC_cases (ty := ty) hc (d := d) (by omega)
    have ihn := ih' _ hk
    generalize stepC c ty d = S at *
    obtain ⟨c2, M, e⟩ := S
    dsimp only at hk he hcs ihn ⊢
    rw [ctx_eqs2, ifnt]
    rcases hcs with h | ⟨m', h, hu, hg, h0⟩
    · subst h
      rw [sameA_is (by simp) (fun m hm => by cases hm), Option.bind_some]
      dsimp only
      rw [ifnt, if_neg (by simp), okp_is, okB_iff.2 hk, Option.bind_some]
      dsimp only
      rw [ifnt, ifn (by simp)]
      refine bq_step (fun h => absurd h (by simp)) (fun _ => ?_)
      refine ne_step (fun h => ?_) (fun h => ihn)
      obtain ⟨rfl, _⟩ := he h
      rw [ctx_eqs2, ifnt]
      exact ihn
    · subst h
      subst h0
      rw [sameA_is (by simp) (fun m hm => by rw [List.mem_singleton] at hm; subst hm; exact hg.small'), Option.bind_some]
      dsimp only
      rw [ifnt, if_neg (by simp), okp_is, okB_iff.2 hk, Option.bind_some]
      dsimp only
      rw [ifnt, ifn (by simp)]
      refine bq_step (fun _ => ?_) (fun h => absurd rfl h)
      rw [List.getElem?_cons_zero, Option.bind_some, cright_is hg, updR_iff.2 hu, Option.bind_some]
      dsimp only
      rw [ifnt]
      exact ne_step (fun h => absurd rfl h) (fun h => ihn)
theorem ctxFolds_pure (x0 : List S_api_Tlv) (g0 : Good_list_api_Tlv x0) : g_law22_CtxFolds (x0, ()) = some ((true, ()), ()) := by
  show h_law22_CtxFolds fuel (x0, ()) = _
  rw [h_law22_CtxFolds_eq]
  refine dq_step' (fun h => awb22 _) (fun h => ?_)
  exact cfolds_go (n := fuel) (by omega) x0.length fuel 0 ⟨[], [], [], [], [], [], []⟩ (by omega) (fuel_ge (by omega)) okC_none
end Go.VP
