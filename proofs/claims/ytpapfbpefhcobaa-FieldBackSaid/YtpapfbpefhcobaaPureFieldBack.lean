/- A message that may be comes back of its TLV; one that counts may be, and comes back: for all arguments. -/
import Derived.Test.YtpapfbpefhcobaaFQ3
import Derived.Test.YtpapfbpefhcobaaPBase
import Derived.Test.YtpapfbpefhcobaaPCur
import Derived.Test.YtpapfbpefhcobaaPOct
import Derived.Test.YtpapfbpefhcobaaPTlv
import Derived.Test.YtpapfbpefhcobaaPSub
import Derived.Test.YtpapfbpefhcobaaPMsg
import Derived.Test.YtpapfbpefhcobaaPAddr
import Derived.Test.YtpapfbpefhcobaaPField
import Derived.Test.YtpapfbpefhcobaaPFieldG
import Derived.Test.YtpapfbpefhcobaaPFieldB
import Derived.Test.YtpapfbpefhcobaaPGood
set_option linter.unusedVariables false
set_option linter.unusedSimpArgs false
set_option maxRecDepth 100000
namespace Go.VP
open Go Go.VI
/-- The half of the law that begins with a TLV. -/
theorem back_half {t : S_api_Tlv} (h3 : ¬ (255 : Int) < t.data.length) {f : Option ((Bool × Unit) × Unit)}
    (hf : f = (if (decide (t.type_ < 2)) = true then ((g_law20_awake ()).bind fun r20 => some ((r20.1.1, ()), ())) else (if (decide (5 < t.type_)) = true then ((g_law20_awake ()).bind fun r21 => some ((r21.1.1, ()), ())) else ((g_field_Get (t, ())).bind fun r22 => (if (!r22.1.2.1) = true then ((g_law20_awake ()).bind fun r23 => (if r23.1.1 = true then ((g_ref07_Same (r22.1.1, msg0, ())).bind fun r24 => some ((r24.1.1, ()), ())) else some ((false, ()), ()))) else ((g_field_Put (r22.1.1, ())).bind fun r25 => ((g_law20_awake ()).bind fun r26 => (if r26.1.1 = true then (if (r22.1.2.2.1 == 0) = true then (if r25.1.2.1 = true then ((g_field_Right (r22.1.1, ())).bind fun r27 => (if r27.1.1 = true then some (((decide ((r25.1.1.length : Int) ≤ (IntKind.wrap .i64 ((t.data.length : Int) + 2)))), ()), ()) else some ((false, ()), ()))) else some ((false, ()), ())) else some ((false, ()), ())) else some ((false, ()), ()))))))))) :
    f = some ((true, ()), ()) := by
  rw [hf, awake20, Option.bind_some]
  by_cases h1 : t.type_ < 2
  · rw [ifd h1]
  by_cases h2 : 5 < t.type_
  · rw [ifn h1, ifd h2]
  obtain ⟨ty, a, d⟩ := t
  dsimp only at h1 h2 h3 ⊢
  rw [ifn h1, ifn h2, getF_is (by omega) (by omega), Option.bind_some]
  rcases fieldG_cases (ty := ty) (d := d) (by omega) (by omega) with ⟨m, e, r, g, hl⟩ | ⟨x, e⟩
  · rw [e]
    dsimp only [trip]
    rw [ifnt, put_is g, Option.bind_some, (fieldPut_ok r).1, Option.bind_some, ift, if_pos (show ((0 : Int) == 0) = true from rfl), ift, right_is g, fieldR_iff.2 r, Option.bind_some, ift, w64 (by omega) (by omega)]
    have : (((u8of (m.kind - 5) :: u8of ((fieldsF m ++ encS m.subs).length : Int) :: (fieldsF m ++ encS m.subs)).length : Nat) : Int) ≤ (d.length : Int) + 2 := by simp only [List.length_cons] at *; omega
    rw [decide_eq_true this]
  · rw [e]
    dsimp only [trip]
    rw [ifnf, Option.bind_some, ift, same_is (by simp) (by simp), eqB_refl]; rfl
theorem fieldBack_pure (x0 : S_api_Msg) (g0 : Good_api_Msg x0) (x1 : S_api_Tlv) (g1 : Good_api_Tlv x1) : g_law20_FieldBack (x0, x1, ()) = some ((true, ()), ()) := by
  obtain ⟨b, e, h⟩ := few_is (goodMsg g0)
  rw [g_law20_FieldBack_eq, e, Option.bind_some]
  dsimp only
  cases b with
  | false => rw [ifnf, awake20]; rfl
  | true =>
    have g := goodM g0 (h rfl).lite
    by_cases h3 : (255 : Int) < x1.data.length
    · rw [ifnt, ifd h3, awake20]; rfl
    rw [ifnt, ifn h3, put_is g, Option.bind_some, right_is g, Option.bind_some]
    by_cases hb : fieldB x0 = true
    · have r := fieldR_iff.1 hb
      obtain ⟨p1, p2, p3⟩ := fieldPut_ok r
      have hs : g_ref18_Split ((u8of (x0.kind - 5) :: u8of ((fieldsF x0 ++ encS x0.subs).length : Int) :: (fieldsF x0 ++ encS x0.subs)), 0, ()) = some (([⟨x0.kind - 5, 0, fieldsF x0 ++ encS x0.subs⟩], 0, 0, ()), ()) := by
        rw [rsplit_is (by simp only [List.length_cons]; omega) (by omega), spl_tput (by omega) p2]; rfl
      have hg := getF_is (ty := x0.kind - 5) (at_ := 0) (d := fieldsF x0 ++ encS x0.subs) (by omega) p3
      rw [fieldG_back r] at hg
      rw [p1, hb]
      dsimp only
      rw [if_neg (by decide), ift, hs, Option.bind_some]
      dsimp only
      rw [if_neg (by decide), if_neg (by simp)]
      rw [show ([⟨x0.kind - 5, 0, fieldsF x0 ++ encS x0.subs⟩] : List S_api_Tlv)[0]? = some ⟨x0.kind - 5, 0, fieldsF x0 ++ encS x0.subs⟩ from rfl, Option.bind_some]
      dsimp only
      rw [ifn (by omega), Option.bind_some]
      dsimp only
      rw [ifn (by omega), Option.bind_some, hg, Option.bind_some]
      dsimp only [trip]
      rw [ifnt, if_neg (by decide), same_is (by have := g.few.list; omega) (by have := g.few.subs; omega), eqB_refl, Option.bind_some]
      dsimp only
      rw [ifnt]
      exact back_half h3 rfl
    · have hp : fieldPut x0 = ([], false) := by unfold fieldPut; rw [if_neg hb]
      rw [Bool.not_eq_true] at hb
      rw [hp, hb]
      dsimp only
      rw [if_neg (by decide), iff_]
      exact back_half h3 rfl
end Go.VP
