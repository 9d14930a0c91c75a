/- Whether any messages may be routes, and their datagram, are the document's: for all arguments. -/
import Derived.Test.YtnjhhopdiopbfaaFQ4
import Derived.Test.YtnjhhopdiopbfaaPBase
import Derived.Test.YtnjhhopdiopbfaaPCur
import Derived.Test.YtnjhhopdiopbfaaPOct
import Derived.Test.YtnjhhopdiopbfaaPTlv
import Derived.Test.YtnjhhopdiopbfaaPSub
import Derived.Test.YtnjhhopdiopbfaaPMsg
import Derived.Test.YtnjhhopdiopbfaaPBits
import Derived.Test.YtnjhhopdiopbfaaPRipA
import Derived.Test.YtnjhhopdiopbfaaPRipB
import Derived.Test.YtnjhhopdiopbfaaPRipC
import Derived.Test.YtnjhhopdiopbfaaPRipD
import Derived.Test.YtnjhhopdiopbfaaPRipE
import Derived.Test.YtnjhhopdiopbfaaPRipF
import Derived.Test.YtnjhhopdiopbfaaFGood
set_option linter.unusedVariables false
set_option linter.unusedSimpArgs false
set_option maxRecDepth 100000
namespace Go.VP
open Go Go.VI
theorem ripEncodes_pure' (x0 : List Msg) (g0 : ∀ m ∈ x0, Good_api_Msg m) : g_law10_RipEncodes (x0, ()) = some ((true, ()), ()) := by
  show h_law10_RipEncodes fuel (x0, ()) = _
  rw [h_law10_RipEncodes_eq]
  obtain ⟨b, hb, hb'⟩ := fewAll30 (a := x0) (fun m hm => goodMsg1 (g0 m hm))
  rw [hb, Option.bind_some]
  dsimp only
  cases b with
  | false => rw [ifnf, awake10]; rfl
  | true =>
    obtain ⟨hl, hf⟩ := hb' rfl
    have rm : ∀ m ∈ x0, RM m := fun m hm => goodRM (g0 m hm) (hf m hm)
    rw [ifnt]
    have main : ∀ (d m i : Nat), i + d = x0.length → d < m → L_law10_RipEncodes_0 fuel m x0 i = some ((true, ()), ()) := by
      intro d
      induction d with
      | zero =>
        intro m i hd hm
        obtain ⟨m, rfl⟩ : ∃ k, m = k + 1 := ⟨m - 1, by omega⟩
        rw [L_law10_RipEncodes_0_eq, ifn (by omega), enc_is rm (by omega), Option.bind_some, renc_is rm (by omega), Option.bind_some, awake10, Option.bind_some]
        simp
      | succ d ih =>
        intro m i hd hm
        obtain ⟨m, rfl⟩ : ∃ k, m = k + 1 := ⟨m - 1, by omega⟩
        have hi : i < x0.length := by omega
        have := ih m (i + 1) (by omega) (by omega)
        rw [show ((i + 1 : Nat) : Int) = (i : Int) + 1 by omega] at this
        have hm' := rm _ (List.getElem_mem hi)
        have hp : 0 ≤ (i : Int) := by omega
        rw [L_law10_RipEncodes_0_eq, ifd (by omega)]
        simp only [if_pos hp, Int.toNat_natCast, List.getElem?_eq_getElem hi, Option.bind_some, ripRight_is hm', rripRight_is hm']
        rw [if_neg (by simp), w64 (by omega) (by omega), this]
    exact main x0.length fuel 0 (by omega) (fuel_ge (by omega))
end Go.VP
namespace Go.VP
open Go Go.VI
theorem ripEncodes_pure (x0 : List S_api_Msg) (g0 : Good_list_api_Msg x0) : g_law10_RipEncodes (x0, ()) = some ((true, ()), ()) := Go.VP.ripEncodes_pure' x0 g0.1.2
end Go.VP
