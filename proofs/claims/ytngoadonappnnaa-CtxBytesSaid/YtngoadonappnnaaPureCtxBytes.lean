/- A byte that may be left out says what it stands for: for all arguments. -/
import Derived.Test.YtngoadonappnnaaFQ10
import Derived.Test.YtngoadonappnnaaPBase
import Derived.Test.YtngoadonappnnaaPCur
import Derived.Test.YtngoadonappnnaaPOct
import Derived.Test.YtngoadonappnnaaPTlv
import Derived.Test.YtngoadonappnnaaPSub
import Derived.Test.YtngoadonappnnaaPMsg
import Derived.Test.YtngoadonappnnaaPAll
import Derived.Test.YtngoadonappnnaaPAddr
import Derived.Test.YtngoadonappnnaaPBits
import Derived.Test.YtngoadonappnnaaPField
import Derived.Test.YtngoadonappnnaaPFieldG
import Derived.Test.YtngoadonappnnaaPFieldB
import Derived.Test.YtngoadonappnnaaPRoute
import Derived.Test.YtngoadonappnnaaPRouteG
import Derived.Test.YtngoadonappnnaaPTake
import Derived.Test.YtngoadonappnnaaPRouteB
import Derived.Test.YtngoadonappnnaaPCtx
import Derived.Test.YtngoadonappnnaaPCtxU
import Derived.Test.YtngoadonappnnaaPOk
import Derived.Test.YtngoadonappnnaaPCtxV
import Derived.Test.YtngoadonappnnaaPCtxW
import Derived.Test.YtngoadonappnnaaPCtxX
import Derived.Test.YtngoadonappnnaaPIntake
import Derived.Test.YtngoadonappnnaaPFold
import Derived.Test.YtngoadonappnnaaPParts
import Derived.Test.YtngoadonappnnaaPUpd
import Derived.Test.YtngoadonappnnaaPLeanR
import Derived.Test.YtngoadonappnnaaPCtxL
import Derived.Test.YtngoadonappnnaaFGood
set_option linter.unusedVariables false
set_option linter.unusedSimpArgs false
set_option maxRecDepth 100000
namespace Go.VP
open Go Go.VI
theorem aw22_go : ((g_law22_awake ()).bind fun r5 => some ((r5.1.1, ()), ())) = (some ((true, ()), ()) : Option ((Bool × Unit) × Unit)) := awb22 _
theorem bytes_tail {a0 : S_api_Ctx} {a1 P Q : List UInt8} {v a2 e : Int} {l : List S_api_Msg} {a : S_api_Ctx} (hc : okC a0) (h1 : 10 ≤ a1.length) (h2 : a1.length ≤ 255) (hv : v = bt a1 0) (hae : 1 ≤ v ∧ v ≤ 3) (h3 : bt a1 3 = 0) (ha2 : 0 ≤ a2 ∧ a2 ≤ 255)
    (hP : P = preC a0 v) (hQ : P = [] ∧ Q = [] ∨ P ≠ [] ∧ Q = P.drop (baseA v).toNat) (hs : stepC a0 8 a1 = (a, l, e)) :
    (a1[2]?.bind fun (y14 : UInt8) => (if 0 ≤ v ∧ v < 4 then (if (e != 0) = true then ((g_law22_awake ()).bind fun r15 => some ((r15.1.1, ()), ())) else (if (Q == ([] : List UInt8)) = true then ((g_law22_awake ()).bind fun r16 => some ((r16.1.1, ()), ())) else (if (decide ((IntKind.wrap .i64 ((IntKind.wrap .i64 ((IntKind.wrap .i64 ((IntKind.wrap .i64 ((IntKind.wrap .i64 (y14.toNat : Int)) + 7)).tdiv 8)) - (P.length : Int))) + (Q.length : Int))) < (IntKind.wrap .i64 (a2.tmod 17)))) = true then ((g_law22_awake ()).bind fun r17 => some ((r17.1.1, ()), ())) else (if (decide ((Q.length : Int) < (IntKind.wrap .i64 (a2.tmod 17)))) = true then ((g_law22_awake ()).bind fun r18 => some ((r18.1.1, ()), ())) else (if (decide ((a1.length : Int) < (IntKind.wrap .i64 (10 + (IntKind.wrap .i64 (a2.tmod 17)))))) = true then ((g_law22_awake ()).bind fun r19 => some ((r19.1.1, ()), ())) else (if 0 ≤ (10 : Int) ∧ (10 : Int) ≤ (IntKind.wrap .i64 (10 + (IntKind.wrap .i64 (a2.tmod 17)))) ∧ (IntKind.wrap .i64 (10 + (IntKind.wrap .i64 (a2.tmod 17)))) ≤ (a1.length : Int) then (if 0 ≤ (IntKind.wrap .i64 (a2.tmod 17)) ∧ (IntKind.wrap .i64 (a2.tmod 17)) ≤ (Q.length : Int) then (if (!(((a1.take (IntKind.wrap .i64 (10 + (IntKind.wrap .i64 (a2.tmod 17)))).toNat).drop 10) == (Q.take (IntKind.wrap .i64 (a2.tmod 17)).toNat))) = true then ((g_law22_awake ()).bind fun r20 => some ((r20.1.1, ()), ())) else (if 0 ≤ (3 : Int) ∧ (3 : Int) ≤ (a1.length : Int) then (if maxB ((a1.take 3).length + ([(u8of (IntKind.wrap .u8 (IntKind.wrap .i64 (a2.tmod 17))))]).length) = true then (if 0 ≤ (4 : Int) ∧ (4 : Int) ≤ (10 : Int) ∧ (10 : Int) ≤ (a1.length : Int) then (if maxB (((a1.take 3) ++ ([(u8of (IntKind.wrap .u8 (IntKind.wrap .i64 (a2.tmod 17))))])).length + ((a1.take 10).drop 4).length) = true then (if 0 ≤ (IntKind.wrap .i64 (10 + (IntKind.wrap .i64 (a2.tmod 17)))) ∧ (IntKind.wrap .i64 (10 + (IntKind.wrap .i64 (a2.tmod 17)))) ≤ (a1.length : Int) then (if maxB ((((a1.take 3) ++ ([(u8of (IntKind.wrap .u8 (IntKind.wrap .i64 (a2.tmod 17))))])) ++ ((a1.take 10).drop 4)).length + (a1.drop (IntKind.wrap .i64 (10 + (IntKind.wrap .i64 (a2.tmod 17)))).toNat).length) = true then ((g_ctx_Step (a0, (S_api_Tlv.mk 8 0 ((((a1.take 3) ++ ([(u8of (IntKind.wrap .u8 (IntKind.wrap .i64 (a2.tmod 17))))])) ++ ((a1.take 10).drop 4)) ++ (a1.drop (IntKind.wrap .i64 (10 + (IntKind.wrap .i64 (a2.tmod 17)))).toNat))), ())).bind fun r21 => ((g_law22_awake ()).bind fun r22 => (if r22.1.1 = true then (if (r21.1.2.2.1 == 0) = true then (if ((a.prefix_c0 == r21.1.1.prefix_c0) && ((a.prefix_c1 == r21.1.1.prefix_c1) && ((a.prefix_c2 == r21.1.1.prefix_c2) && ((a.prefix_c3 == r21.1.1.prefix_c3) && ((a.next_c0 == r21.1.1.next_c0) && ((a.next_c1 == r21.1.1.next_c1) && (a.id == r21.1.1.id))))))) = true then ((g_ref07_SameAll (l, r21.1.2.1, ())).bind fun r23 => some ((r23.1.1, ()), ())) else some ((false, ()), ())) else some ((false, ()), ())) else some ((false, ()), ())))) else none) else none) else none) else none) else none) else none)) else none) else none)))))) else none)) = (some ((true, ()), ()) : Option ((Bool × Unit) × Unit)) := by
  have b2 := bt_rng a1 2
  have hbs := baseA_rng v
  have hst : stepC a0 8 a1 = updF a0 a1 := by unfold stepC; rw [if_neg (by decide), if_neg (by decide), if_pos rfl]
  rw [get_bt (i := 2) (by omega), Option.bind_some, if_pos (by omega)]
  refine ne_step (fun _ => aw22_go) (fun h0 => ?_)
  refine be_step (fun _ => aw22_go) (fun hq => ?_)
  rcases hQ with ⟨_, hQ⟩ | ⟨hPn, hQ⟩
  · exact absurd hQ hq
  have hpl := preC_len hc (ae := v) (by omega) (by rw [← hP]; exact hPn)
  rw [← hP] at hpl
  have hsz : szA v ≤ 16 := by unfold szA; split <;> (try split) <;> (try split) <;> omega
  have hQl : (Q.length : Int) = szA v - baseA v := by
    have : baseA v ≤ szA v := by unfold baseA szA; split <;> (try split) <;> (try split) <;> omega
    rw [hQ, List.length_drop]; omega
  have hk0 : IntKind.wrap .i64 (a2.tmod 17) = a2 % 17 := by rw [Int.tmod_eq_emod_of_nonneg (by omega), w64 (by omega) (by omega)]
  obtain ⟨k, hk⟩ : ∃ k : Nat, a2 % 17 = (k : Int) := ⟨(a2 % 17).toNat, by omega⟩
  have hk17 : k < 17 := by omega
  rw [hk0, hk]
  show (if decide (IntKind.wrap .i64 (IntKind.wrap .i64 (IntKind.wrap .i64 ((IntKind.wrap .i64 (IntKind.wrap .i64 (bt a1 2) + 7)).tdiv 8) - (P.length : Int)) + (Q.length : Int)) < (k : Int)) = true then _ else _) = _
  have hR : IntKind.wrap .i64 (IntKind.wrap .i64 (IntKind.wrap .i64 ((IntKind.wrap .i64 (IntKind.wrap .i64 (bt a1 2) + 7)).tdiv 8) - (P.length : Int)) + (Q.length : Int)) = restN v (bt a1 2) 0 := by
    rw [w64 (x := bt a1 2) (by omega) (by omega), w64 (x := bt a1 2 + 7) (by omega) (by omega), Int.tdiv_eq_ediv_of_nonneg (by omega), w64 (x := (bt a1 2 + 7) / 8) (by omega) (by omega), w64 (x := (bt a1 2 + 7) / 8 - (P.length : Int)) (by omega) (by omega), w64 (by omega) (by omega)]
    unfold restN leastF
    rw [if_neg (by omega)]; omega
  rw [hR, w64 (x := 10 + (k : Int)) (by omega) (by omega)]
  refine dq_step' (fun _ => aw22_go) (fun hkr => ?_)
  refine dq_step' (fun _ => aw22_go) (fun hkq => ?_)
  refine dq_step' (fun _ => aw22_go) (fun hkd => ?_)
  rw [if_pos (show 0 ≤ (10 : Int) ∧ (10 : Int) ≤ 10 + (k : Int) ∧ 10 + (k : Int) ≤ (a1.length : Int) by omega), if_pos (show 0 ≤ (k : Int) ∧ (k : Int) ≤ (Q.length : Int) by omega)]
  have ht : (10 + (k : Int)).toNat = 10 + k := by omega
  rw [ht, Int.toNat_natCast]
  have hcut : (a1.take (10 + k)).drop 10 = (a1.drop 10).take k := by rw [List.drop_take, show 10 + k - 10 = k by omega]
  rw [hcut]
  by_cases hq2 : (a1.drop 10).take k = Q.take k
  rotate_left
  · rw [if_pos (by simpa using hq2)]; exact aw22_go
  rw [if_neg (by simpa using hq2)]
  have hu : u8of (IntKind.wrap .u8 (k : Int)) = u8of (k : Int) := by rw [wu8, u8of_emod' (by omega)]
  rw [if_pos (by omega), if_pos (maxB_of (by simp; omega)), if_pos (by omega), if_pos (maxB_of (by simp; omega)), if_pos (by omega), if_pos (maxB_of (by simp; omega)), hu]
  have hD : (((a1.take 3 ++ [u8of (k : Int)]) ++ (a1.take 10).drop 4) ++ a1.drop (10 + k)) = lessD a1 k := rfl
  have hDl : (lessD a1 k).length ≤ 255 := by unfold lessD; simp; omega
  rw [hst] at hs
  have e0 : (updF a0 a1).2.2 = 0 := by rw [hs]; exact h0
  have hless := updF_less (c := a0) (d := a1) (k := k) h1 h2 (by omega) h3 (by rw [← hv]; omega) (by omega) (by rw [← hv, ← hP]; exact hPn) (by rw [hq2, hQ, hP, hv]) e0
  rw [hD, cstep_is hc (by omega), Option.bind_some, awb22]
  have hst2 : stepC a0 8 (lessD a1 k) = updF a0 a1 := by unfold stepC; rw [if_neg (by decide), if_neg (by decide), if_pos rfl, hless]
  have hcs := updF_cases (d := a1) hc (by omega)
  rw [hst2]
  rw [hs] at hcs ⊢
  dsimp only at hcs ⊢
  have hsm : l.length ≤ 1000000 ∧ ∀ m ∈ l, Small m := by
    rcases hcs with h | ⟨m, h, _, hg, _⟩
    · rw [h]; exact ⟨by simp, fun m hm => by cases hm⟩
    · rw [h]; exact ⟨by simp, fun z hz => by rw [List.mem_singleton] at hz; subst hz; exact hg.small'⟩
  rw [ift, h0, if_pos (show ((0 : Int) == 0) = true from rfl), ctx_eqs2, ift, sameA_is hsm.1 hsm.2]; rfl
theorem ctxBytes_pure (x0 : S_api_Ctx) (g0 : Good_api_Ctx x0) (x1 : List UInt8) (g1 : Good_string x1) (x2 : Int) (g2 : Good_uint8 x2) : g_law22_CtxBytes (x0, x1, x2, ()) = some ((true, ()), ()) := by
  have hx : 0 ≤ x2 ∧ x2 ≤ 255 := has8.1 g2.1
  rw [g_law22_CtxBytes_eq, rok_is, Option.bind_some]
  dsimp only
  cases hok : okB x0 with
  | false => rw [ifnf]; exact aw22_go
  | true =>
  have hc := okB_iff.1 hok
  rw [ifnt]
  refine dq_step' (fun _ => aw22_go) (fun h1 => ?_)
  refine dq_step' (fun _ => aw22_go) (fun h2 => ?_)
  refine dq_step' (fun _ => aw22_go) (fun h3 => ?_)
  rw [get_bt (i := 0) (by omega), Option.bind_some]
  refine dq_step' (fun _ => aw22_go) (fun h4 => ?_)
  rw [Option.bind_some]
  refine dq_step' (fun _ => aw22_go) (fun h5 => ?_)
  rw [get_bt (i := 3) (by omega), Option.bind_some]
  refine ne_step (fun _ => aw22_go) (fun h6 => ?_)
  rw [Option.bind_some, w64n]
  have hv : bt x1 0 = (((x1[0]?.getD 0).toNat : Nat) : Int) := rfl
  rw [← hv] at h4 h5 ⊢
  have h3b : bt x1 3 = 0 := h6
  generalize hvv : bt x1 0 = v at *
  have hpre : (if v = 0 then x0.prefix_c0 else (if v = 1 then x0.prefix_c1 else (if v = 2 then x0.prefix_c2 else x0.prefix_c3))) = preC x0 v := rfl
  rw [if_pos (show 0 ≤ v ∧ v < 4 by omega), hpre]
  have hpl := @preC_len x0 hc v (by omega)
  refine bq_step (fun hv3 => ?_) (fun hv3 => ?_)
  · by_cases hPn : preC x0 v = []
    · rw [if_neg (by simp [hPn]), cstep_is hc (by omega), Option.bind_some]
      exact bytes_tail hc (by omega) (by omega) hvv.symm (by omega) h3b hx rfl (.inl ⟨hPn, hPn⟩) rfl
    · have := hpl hPn
      have s3 : szA v = 16 := by rw [hv3]; rfl
      have b3 : (baseA v).toNat = 8 := by rw [hv3]; rfl
      rw [if_pos (by simp [hPn]), if_pos (by omega), cstep_is hc (by omega), Option.bind_some]
      exact bytes_tail hc (by omega) (by omega) hvv.symm (by omega) h3b hx rfl (.inr ⟨hPn, by rw [b3]⟩) rfl
  · have b3 : (baseA v).toNat = 0 := by unfold baseA; split <;> (try split) <;> (try split) <;> first | rfl | omega
    rw [cstep_is hc (by omega), Option.bind_some]
    refine bytes_tail hc (by omega) (by omega) hvv.symm (by omega) h3b hx rfl ?_ rfl
    by_cases hPn : preC x0 v = []
    · exact .inl ⟨hPn, hPn⟩
    · exact .inr ⟨hPn, by rw [b3, List.drop_zero]⟩
end Go.VP
