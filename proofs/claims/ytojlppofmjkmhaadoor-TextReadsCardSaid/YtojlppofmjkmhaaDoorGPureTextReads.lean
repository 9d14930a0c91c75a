import Derived.Test.YtojlppofmjkmhaaDoorGFQ1
import Derived.Test.YtojlppofmjkmhaaDoorGM0
import Derived.Test.YtojlppofmjkmhaaDoorGM1
import Derived.Test.YtojlppofmjkmhaaDoorGFGood
set_option linter.unusedVariables false
set_option linter.unusedSimpArgs false
set_option maxRecDepth 100000
namespace Go.VP
open Go Go.VI
theorem docRead_is {s : Bs} (h : s.length ≤ 1000) : g_ref29_Read (s, ()) = some (((readL s).getD (zeroM 0), (readL s).isSome, ()), ()) := by
  show x_ref29_Read _ = _
  unfold x_ref29_Read
  dsimp only
  rw [if_pos h]
  obtain ⟨h1, h2⟩ := read_fold s
  by_cases hp : printM (foldQ s) = some s
  · rw [if_pos hp, h1 hp]; rfl
  · rw [if_neg hp, h2 hp]; rfl
theorem textReads_pure (x0 : List UInt8) (g0 : Good_string x0) : g_law29_TextReads (x0, ()) = some ((true, ()), ()) := by
  rw [g_law29_TextReads_eq]
  by_cases hl : 1000 < x0.length
  · rw [ifd (by omega), awake29]; rfl
  · have hsz : ((readL x0).getD (zeroM 0)).list.length ≤ 1000 ∧ ((readL x0).getD (zeroM 0)).subs.length ≤ 1000 := by
      cases hr : readL x0 with
      | none => exact ⟨by decide, by decide⟩
      | some m => have := small_read (by omega) hr; exact ⟨this.list.1, this.subs.1⟩
    have hsm := same_is (a := (readL x0).getD (zeroM 0)) (b := (readL x0).getD (zeroM 0)) (by omega) (by omega)
    rw [eqB_refl] at hsm
    rw [ifn (by omega), readT_is (by omega), Option.bind_some, docRead_is (by omega), Option.bind_some, awake29, Option.bind_some]
    dsimp only
    rw [ift, hsm, Option.bind_some]
    dsimp only
    rw [ift]
    simp
end Go.VP
