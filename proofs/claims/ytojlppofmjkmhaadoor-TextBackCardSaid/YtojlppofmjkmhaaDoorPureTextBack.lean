/- A message that has a line is read of it; a line that is read is that message's: for all arguments. -/
import Derived.Test.YtojlppofmjkmhaaDoorFQ1
import Derived.Test.YtojlppofmjkmhaaDoorPAll
import Derived.Test.YtojlppofmjkmhaaDoorFGood
set_option linter.unusedVariables false
set_option linter.unusedSimpArgs false
set_option maxRecDepth 100000
namespace Go.VP
open Go Go.VI
theorem goodMsg29 {m : Msg} (g : Good_api_Msg m) : GoodMsg m := by
  obtain ⟨g1, g2, g3, g4, g5, g6, g7, g8, g9, g10, g11, g12, g13, g14, g15, g16, g17, g18, g19, g20, g21, _⟩ := g
  exact ⟨g4, g7, g10, g12, g20, g21⟩
theorem zero_eq : (S_api_Msg.mk 0 0 0 ([] : List UInt8) 0 0 ([] : List UInt8) 0 0 ([] : List UInt8) 0 ([] : List UInt8) 0 0 0 0 0 0 0 ([] : List UInt8) ([] : List UInt8) [] 0 ([] : List UInt8) []) = zeroM 0 := rfl
/-- The second half. -/
theorem back_tail {s : Bs} (hs : s.length ≤ 1000) : ((g_text_Read (s, ())).bind fun r7 => ((g_text_Print (r7.1.1, ())).bind fun r8 => ((g_law29_awake ()).bind fun r9 => (if r9.1.1 = true then (if (!r7.1.2.1) = true then (if r7.1.2.1 = true then some ((true, ()), ()) else ((g_ref07_Same (r7.1.1, zeroM 0, ())).bind fun r10 => some ((r10.1.1, ()), ()))) else (if r8.1.2.1 = true then (if (r8.1.1 == s) = true then (if r7.1.2.1 = true then some ((true, ()), ()) else ((g_ref07_Same (r7.1.1, zeroM 0, ())).bind fun r11 => some ((r11.1.1, ()), ()))) else some ((false, ()), ())) else some ((false, ()), ()))) else some ((false, ()), ()))))) = some ((true, ()), ()) := by
  rw [readT_is (by omega), Option.bind_some]
  dsimp only
  cases hr : readL s with
  | none =>
    have hS : SmallM (zeroM 0) := ⟨by decide, by decide, by decide, by decide, by decide, by decide, by decide, ⟨by decide, fun d hd => by cases hd⟩, ⟨by decide, fun d hd => by cases hd⟩⟩
    show ((g_text_Print (zeroM 0, ())).bind _) = _
    rw [printT_is hS, Option.bind_some, awake29, Option.bind_some, ift]
    have hsm := same_is (a := zeroM 0) (b := zeroM 0) (by decide) (by decide)
    rw [eqB_refl] at hsm
    show (if (!false) = true then (if false = true then _ else ((g_ref07_Same (zeroM 0, zeroM 0, ())).bind _)) else _) = _
    rw [ifnf, iff_, hsm, Option.bind_some]
  | some m =>
    have hS := small_read hs hr
    have hp := print_read hr
    show ((g_text_Print (m, ())).bind _) = _
    rw [printT_is hS, Option.bind_some, awake29, Option.bind_some, ift, hp]
    show (if (!true) = true then _ else (if true = true then (if (s == s) = true then (if true = true then _ else _) else _) else _)) = _
    rw [ifnt, ift, if_pos (by simp), ift]
theorem textBack_pure (x0 : S_api_Msg) (g0 : Good_api_Msg x0) (x1 : List UInt8) (g1 : Good_string x1) : g_law29_TextBack (x0, x1, ()) = some ((true, ()), ()) := by
  rw [g_law29_TextBack_eq]
  obtain ⟨fb, hf, hfew⟩ := few_is (goodMsg29 g0)
  rw [hf, Option.bind_some]
  cases fb with
  | false => dsimp only; rw [ifnf, awake29]; rfl
  | true =>
    have hF := hfew rfl
    dsimp only
    rw [ifnt]
    by_cases h1 : (1000 : Int) < (x1.length : Int)
    · rw [ifd h1, awake29]; rfl
    rw [ifn h1, zero_eq]
    have T := back_tail (s := x1) (by omega)
    rw [printT_is (small_of hF.lite), Option.bind_some]
    dsimp only
    have hl := few_line hF
    cases hp : printM x0 with
    | none =>
      rw [hp] at hl
      show ((g_text_Read ([], ())).bind _) = _
      rw [readT_is (by simp), Option.bind_some]
      show (if false = true then _ else (if (!false) = true then (if (!(([] : Bs) == ([] : Bs))) = true then _ else _) else _)) = _
      rw [iff_, ifnf, if_neg (by simp)]
      exact T
    | some t =>
      rw [hp] at hl
      have hl : t.length ≤ 1000000 := hl
      show ((g_text_Read (t, ())).bind _) = _
      rw [readT_is hl, Option.bind_some, read_print hp]
      show (if true = true then (if (!true) = true then _ else ((g_ref07_Same (x0, x0, ())).bind _)) else _) = _
      have hsm := same_is (a := x0) (b := x0) (by have := hF.list; omega) (by have := hF.subs; omega)
      rw [eqB_refl] at hsm
      rw [ift, ifnt, hsm, Option.bind_some]
      show (if (!true) = true then _ else (if (!true) = true then _ else _)) = _
      rw [ifnt, ifnt]
      exact T
end Go.VP
