/- A request that may be comes back of its TLV; one that counts may be, and has a TLV no longer: for all arguments. -/
import Derived.Test.YtpapfbpefhcobaaFQ4
import Derived.Test.YtpapfbpefhcobaaPBase
import Derived.Test.YtpapfbpefhcobaaPCur
import Derived.Test.YtpapfbpefhcobaaPOct
import Derived.Test.YtpapfbpefhcobaaPTlv
import Derived.Test.YtpapfbpefhcobaaPSub
import Derived.Test.YtpapfbpefhcobaaPMsg
import Derived.Test.YtpapfbpefhcobaaPAddr
import Derived.Test.YtpapfbpefhcobaaPBits
import Derived.Test.YtpapfbpefhcobaaPField
import Derived.Test.YtpapfbpefhcobaaPFieldG
import Derived.Test.YtpapfbpefhcobaaPFieldB
import Derived.Test.YtpapfbpefhcobaaPRoute
import Derived.Test.YtpapfbpefhcobaaPRouteG
import Derived.Test.YtpapfbpefhcobaaPRouteB
import Derived.Test.YtpapfbpefhcobaaPGood
set_option linter.unusedVariables false
set_option linter.unusedSimpArgs false
set_option maxRecDepth 100000
namespace Go.VP
open Go Go.VI
/-- What the law makes of a TLV of a request. -/
theorem rback_get {t : S_api_Tlv} (h3 : ¬ (255 : Int) < t.data.length) (ht : t.type_ = 9 ∨ t.type_ = 10) :
    ((g_route_Get (t, ())).bind fun r22 => (if (!r22.1.2.1) = true then ((g_law21_awake ()).bind fun r23 => (if r23.1.1 = true then ((g_ref07_Same (r22.1.1, msg0, ())).bind fun r24 => some ((r24.1.1, ()), ())) else some ((false, ()), ()))) else ((g_route_Put (r22.1.1, ())).bind fun r25 => ((g_law21_awake ()).bind fun r26 => (if r26.1.1 = true then (if (r22.1.2.2.1 == 0) = true then (if r25.1.2.1 = true then ((g_route_Right (r22.1.1, ())).bind fun r27 => (if r27.1.1 = true then some (((decide ((r25.1.1.length : Int) ≤ (IntKind.wrap .i64 ((t.data.length : Int) + 2)))), ()), ()) else some ((false, ()), ()))) else some ((false, ()), ())) else some ((false, ()), ())) else some ((false, ()), ())))))) = some ((true, ()), ()) := by
  rw [awake21]
  obtain ⟨ty, a, d⟩ := t
  dsimp only at h3 ht ⊢
  rw [getR_is (by omega) ht, Option.bind_some]
  rcases routeG_cases (ty := ty) (d := d) ht (by omega) with ⟨m, e, r, g, hl, _⟩ | ⟨x, e⟩
  · rw [e]
    dsimp only [trip]
    rw [ifnt, rtput_is' g, Option.bind_some, (routePut_ok r).1, Option.bind_some, ift, if_pos (show ((0 : Int) == 0) = true from rfl), ift, rtright_is g, routeR_iff.2 r, Option.bind_some, ift, w64 (by omega) (by omega)]
    have : (((u8of (if m.kind = 13 then 10 else 9) :: u8of ((headF m ++ encS m.subs).length : Int) :: (headF m ++ encS m.subs)).length : Nat) : Int) ≤ (d.length : Int) + 2 := by simp only [List.length_cons] at *; omega
    rw [decide_eq_true this]
  · rw [e]
    dsimp only [trip]
    rw [ifnf, Option.bind_some, ift, same_is (by simp) (by simp), eqB_refl]; rfl
theorem rback_half {t : S_api_Tlv} (h3 : ¬ (255 : Int) < t.data.length) {x y : Option ((Bool × Unit) × Unit)} (hx : t.type_ = 10 → x = some ((true, ()), ())) (hy : t.type_ = 9 → y = some ((true, ()), ())) :
    (if (t.type_ != 9) = true then (if (t.type_ != 10) = true then ((g_law21_awake ()).bind fun r11 => some ((r11.1.1, ()), ())) else x) else y) = some ((true, ()), ()) := by
  rw [awake21, Option.bind_some]
  by_cases h9 : t.type_ = 9
  · rw [if_neg (by simp [h9])]; exact hy h9
  · rw [if_pos (by simp [h9])]
    by_cases h10 : t.type_ = 10
    · rw [if_neg (by simp [h10])]; exact hx h10
    · rw [if_pos (by simp [h10])]
theorem routeBack_pure (x0 : S_api_Msg) (g0 : Good_api_Msg x0) (x1 : S_api_Tlv) (g1 : Good_api_Tlv x1) : g_law21_RouteBack (x0, x1, ()) = some ((true, ()), ()) := by
  obtain ⟨b, e, h⟩ := few_is (goodMsg g0)
  rw [g_law21_RouteBack_eq, e, Option.bind_some]
  dsimp only
  cases b with
  | false => rw [ifnf, awake21]; rfl
  | true =>
    have g := goodM g0 (h rfl).lite
    by_cases h3 : (255 : Int) < x1.data.length
    · rw [ifnt, ifd h3, awake21]; rfl
    rw [ifnt, ifn h3, rtput_is' g, Option.bind_some, rtright_is g, Option.bind_some]
    by_cases hb : routeB x0 = true
    · have r := routeR_iff.1 hb
      obtain ⟨p1, p2⟩ := routePut_ok r
      have hk : (if x0.kind = 13 then (10 : Int) else 9) = x0.kind - 3 ∧ ((if x0.kind = 13 then (10 : Int) else 9) = 9 ∨ (if x0.kind = 13 then (10 : Int) else 9) = 10) := by
        rcases r.kinds with hk | ⟨hk, _⟩
        · rw [if_neg (by omega)]; omega
        · rw [if_pos hk]; omega
      have hG := routeG_back r
      generalize (if x0.kind = 13 then (10 : Int) else 9) = T at hk hG p1
      have hs : g_ref18_Split ((u8of T :: u8of ((headF x0 ++ encS x0.subs).length : Int) :: (headF x0 ++ encS x0.subs)), 0, ()) = some (([⟨T, 0, headF x0 ++ encS x0.subs⟩], 0, 0, ()), ()) := by
        rw [rsplit_is (by simp only [List.length_cons]; omega) (by omega), spl_tput (by omega) p2]; rfl
      have hg := getR_is (ty := T) (at_ := 0) (d := headF x0 ++ encS x0.subs) (by omega) hk.2
      rw [hG] at hg
      rw [p1, hb]
      dsimp only
      rw [if_neg (by decide), ift, hs, Option.bind_some]
      dsimp only
      rw [if_neg (by decide), if_neg (by simp)]
      rw [show ([⟨T, 0, headF x0 ++ encS x0.subs⟩] : List S_api_Tlv)[0]? = some ⟨T, 0, headF x0 ++ encS x0.subs⟩ from rfl, Option.bind_some]
      dsimp only
      rw [w64 (by have := hk.2; omega) (by have := hk.2; omega), if_neg (by simp [hk.1]), Option.bind_some, hg, Option.bind_some]
      dsimp only [trip]
      rw [ifnt, if_neg (by decide), same_is (by have := g.few.list; omega) (by have := g.few.subs; omega), eqB_refl, Option.bind_some]
      dsimp only
      rw [ifnt]
      exact rback_half h3 (fun ht => rback_get h3 (.inr ht)) (fun ht => rback_get h3 (.inl ht))
    · have hp : routePut x0 = ([], false) := by unfold routePut; rw [if_neg hb]
      rw [Bool.not_eq_true] at hb
      rw [hp, hb]
      dsimp only
      rw [if_neg (by decide), iff_]
      exact rback_half h3 (fun ht => rback_get h3 (.inr ht)) (fun ht => rback_get h3 (.inl ht))
end Go.VP
