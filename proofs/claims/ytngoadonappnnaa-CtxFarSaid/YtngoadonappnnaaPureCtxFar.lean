/- What says that there is no way is told whatever router-id and next hops are known: for all arguments. -/
import Derived.Test.YtngoadonappnnaaFQ10
import Derived.Test.YtngoadonappnnaaPBase
import Derived.Test.YtngoadonappnnaaPCur
import Derived.Test.YtngoadonappnnaaPOct
import Derived.Test.YtngoadonappnnaaPTlv
import Derived.Test.YtngoadonappnnaaPSub
import Derived.Test.YtngoadonappnnaaPMsg
import Derived.Test.YtngoadonappnnaaPAll
import Derived.Test.YtngoadonappnnaaPAddr
import Derived.Test.YtngoadonappnnaaPBits
import Derived.Test.YtngoadonappnnaaPField
import Derived.Test.YtngoadonappnnaaPFieldG
import Derived.Test.YtngoadonappnnaaPFieldB
import Derived.Test.YtngoadonappnnaaPRoute
import Derived.Test.YtngoadonappnnaaPRouteG
import Derived.Test.YtngoadonappnnaaPTake
import Derived.Test.YtngoadonappnnaaPRouteB
import Derived.Test.YtngoadonappnnaaPCtx
import Derived.Test.YtngoadonappnnaaPCtxU
import Derived.Test.YtngoadonappnnaaPOk
import Derived.Test.YtngoadonappnnaaPCtxV
import Derived.Test.YtngoadonappnnaaPCtxW
import Derived.Test.YtngoadonappnnaaPCtxX
import Derived.Test.YtngoadonappnnaaPIntake
import Derived.Test.YtngoadonappnnaaPFold
import Derived.Test.YtngoadonappnnaaPParts
import Derived.Test.YtngoadonappnnaaPUpd
import Derived.Test.YtngoadonappnnaaPLeanR
import Derived.Test.YtngoadonappnnaaPCtxL
import Derived.Test.YtngoadonappnnaaFGood
set_option linter.unusedVariables false
set_option linter.unusedSimpArgs false
set_option maxRecDepth 100000
namespace Go.VP
open Go Go.VI
theorem takeG_metric {d : Bs} (h : (takeG d).2.1 = true) : (takeG d).1.metric = num (cut_ d 8 2) := by
  unfold takeG at h ⊢
  split at h
  · cases h
  rename_i h1
  split at h
  · cases h
  rename_i h2
  rw [if_neg h1, if_neg h2]
  dsimp only at h ⊢
  split at h
  · cases h
  rename_i h3
  split at h
  · cases h
  rename_i h4
  rw [if_neg h3, if_neg h4]
theorem updF_far {c : Ctx} {D : Bs} (hm : num (cut_ D 8 2) = 65535) : ∃ (M : List Msg) (e : Int) (x y : Ctx), updF c D = (x, M, e) ∧ updF ⟨c.prefix_c0, c.prefix_c1, c.prefix_c2, c.prefix_c3, [], [], []⟩ D = (y, M, e) ∧ (M = [] ∨ ∃ m, M = [m] ∧ m.id = [] ∧ m.next = [] ∧ m.metric = 65535) ∧ x.prefix_c0 = y.prefix_c0 ∧ x.prefix_c1 = y.prefix_c1 ∧ x.prefix_c2 = y.prefix_c2 ∧ x.prefix_c3 = y.prefix_c3 := by
  have ha : ∀ r, addrF ⟨c.prefix_c0, c.prefix_c1, c.prefix_c2, c.prefix_c3, [], [], []⟩ r = addrF c r := fun r => rfl
  have hf : ∀ r a, (flagsF ⟨c.prefix_c0, c.prefix_c1, c.prefix_c2, c.prefix_c3, [], [], []⟩ r a).prefix_c0 = (flagsF c r a).prefix_c0 ∧ (flagsF ⟨c.prefix_c0, c.prefix_c1, c.prefix_c2, c.prefix_c3, [], [], []⟩ r a).prefix_c1 = (flagsF c r a).prefix_c1 ∧ (flagsF ⟨c.prefix_c0, c.prefix_c1, c.prefix_c2, c.prefix_c3, [], [], []⟩ r a).prefix_c2 = (flagsF c r a).prefix_c2 ∧ (flagsF ⟨c.prefix_c0, c.prefix_c1, c.prefix_c2, c.prefix_c3, [], [], []⟩ r a).prefix_c3 = (flagsF c r a).prefix_c3 := fun r a => by
    unfold flagsF
    by_cases h0 : r.ae = 0
    · rw [if_pos h0, if_pos h0]; exact ⟨rfl, rfl, rfl, rfl⟩
    · by_cases h1 : 128 ≤ r.flags
      · simp only [if_neg h0, if_pos h1]; refine ⟨?_, ?_, ?_, ?_⟩ <;> trivial
      · simp only [if_neg h0, if_neg h1]; refine ⟨?_, ?_, ?_, ?_⟩ <;> trivial
  unfold updF
  by_cases ht : (takeG D).2.1 = true
  · have hme := takeG_metric ht
    rw [hm] at hme
    rw [if_pos ht, if_pos ht, ha]
    by_cases h2 : (addrF c (takeG D).1).2 = true
    · rw [if_pos h2, if_pos h2]
      obtain ⟨f0, f1, f2, f3⟩ := hf (takeG D).1 (addrF c (takeG D).1).1
      have hto : ∀ x y : Ctx, toldB x (takeG D).1 = toldB y (takeG D).1 := fun x y => by unfold toldB; rw [hme]; simp
      have hu : ∀ x y : Ctx, updM x (takeG D).1 (addrF c (takeG D).1).1 = updM y (takeG D).1 (addrF c (takeG D).1).1 := fun x y => by unfold updM; rw [hme]; rfl
      by_cases h3 : toldB (flagsF c (takeG D).1 (addrF c (takeG D).1).1) (takeG D).1 = true
      · rw [if_pos h3, if_pos (by rw [hto _ (flagsF c (takeG D).1 (addrF c (takeG D).1).1)]; exact h3)]
        refine ⟨_, _, _, _, rfl, by rw [hu _ (flagsF c (takeG D).1 (addrF c (takeG D).1).1)], .inr ⟨_, rfl, ?_, ?_, hme⟩, f0.symm, f1.symm, f2.symm, f3.symm⟩
        · show (if (takeG D).1.metric = 65535 then [] else _) = []
          rw [if_pos hme]
        · show (if (takeG D).1.metric = 65535 then [] else _) = []
          rw [if_pos hme]
      · rw [if_neg h3, if_neg (by rw [hto _ (flagsF c (takeG D).1 (addrF c (takeG D).1).1)]; exact h3)]
        exact ⟨_, _, _, _, rfl, rfl, .inl rfl, f0.symm, f1.symm, f2.symm, f3.symm⟩
    · rw [if_neg h2, if_neg h2]
      exact ⟨_, _, _, _, rfl, rfl, .inl rfl, rfl, rfl, rfl, rfl⟩
  · rw [if_neg ht, if_neg ht]
    exact ⟨_, _, _, _, rfl, rfl, .inl rfl, rfl, rfl, rfl, rfl⟩
theorem ctxFar_pure (x0 : S_api_Ctx) (g0 : Good_api_Ctx x0) (x1 : List UInt8) (g1 : Good_string x1) : g_law22_CtxFar (x0, x1, ()) = some ((true, ()), ()) := by
  rw [g_law22_CtxFar_eq, rok_is, Option.bind_some]
  dsimp only
  cases hok : okB x0 with
  | false => rw [ifnf]; exact awb22 _
  | true =>
  have hc := okB_iff.1 hok
  rw [ifnt]
  refine dq_step' (fun _ => awb22 _) (fun h1 => ?_)
  refine dq_step' (fun _ => awb22 _) (fun h2 => ?_)
  refine dq_step' (fun _ => awb22 _) (fun h3 => ?_)
  rw [if_pos (by omega), if_pos (maxB_of (by simp; omega)), if_pos (by omega), if_pos (maxB_of (by simp; omega))]
  have hDl : ((x1.take 8 ++ ([255, 255] : Bs)) ++ x1.drop 10).length ≤ 255 := by simp; omega
  have hm : num (cut_ ((x1.take 8 ++ ([255, 255] : Bs)) ++ x1.drop 10) 8 2) = 65535 := by
    rw [List.append_assoc, cutR (k := 8) (by simp; omega) (by omega) (by omega)]
    have : cut_ (([255, 255] : Bs) ++ x1.drop 10) ((8 : Int) - ((8 : Nat) : Int)) 2 = [255, 255] := cutL rfl
    rw [this]; rfl
  generalize (x1.take 8 ++ ([255, 255] : Bs)) ++ x1.drop 10 = D at *
  have hc2 : okC ⟨x0.prefix_c0, x0.prefix_c1, x0.prefix_c2, x0.prefix_c3, [], [], []⟩ := ⟨hc.1, hc.2.1, hc.2.2.1, hc.2.2.2.1, .inl rfl, .inl rfl, .inl rfl⟩
  rw [cstep_is hc (by omega), Option.bind_some, cstep_is hc2 (by omega), Option.bind_some]
  have hs : ∀ c, stepC c 8 D = updF c D := fun c => by unfold stepC; rw [if_neg (by decide), if_neg (by decide), if_pos rfl]
  rw [hs, hs]
  have hcs := updF_cases (d := D) hc (by omega)
  obtain ⟨M, e, x, y, e1, e2, e3, p0, p1, p2, p3⟩ := updF_far (c := x0) hm
  rw [e1] at hcs
  rw [e1, e2]
  dsimp only at hcs ⊢
  have last : ((x.prefix_c0 == y.prefix_c0) && ((x.prefix_c1 == y.prefix_c1) && ((x.prefix_c2 == y.prefix_c2) && (x.prefix_c3 == y.prefix_c3)))) = true := by rw [p0, p1, p2, p3]; simp
  have hsm : ∀ m ∈ M, Small m := by
    rcases hcs with h | ⟨m, h, _, hg, _⟩
    · rw [h]; intro m hm; cases hm
    · rw [h]; intro z hz; rw [List.mem_singleton] at hz; subst hz; exact hg.small'
  have fin : ∀ f : Unit, ((g_law22_awake ()).bind fun r11 => (if r11.1.1 = true then ((g_ref07_SameAll (M, M, ())).bind fun r12 => (if r12.1.1 = true then (if (e == e) = true then some ((((x.prefix_c0 == y.prefix_c0) && ((x.prefix_c1 == y.prefix_c1) && ((x.prefix_c2 == y.prefix_c2) && (x.prefix_c3 == y.prefix_c3)))), ()), ()) else some ((false, ()), ())) else some ((false, ()), ()))) else some ((false, ()), ()))) = (some ((true, ()), ()) : Option ((Bool × Unit) × Unit)) := fun _ => by
    have hl : M.length ≤ 1000000 := by rcases e3 with h | ⟨m, h, _⟩ <;> rw [h] <;> simp
    rw [awb22, last]
    dsimp only
    rw [ift, sameA_is hl hsm, Option.bind_some]
    dsimp only
    rw [ift, if_pos (by simp)]
  refine bq_step (fun h => ?_) (fun h => fin ())
  rcases e3 with h' | ⟨m, h', i1, i2, i3⟩
  · rw [h'] at h; exact absurd h (by simp)
  · have hm0 : M[0]? = some m := by rw [h']; rfl
    rw [hm0]
    simp only [Option.bind_some, i1, i2, i3]
    rw [if_neg (by decide), if_neg (by decide), if_neg (by decide)]
    exact fin ()
end Go.VP
