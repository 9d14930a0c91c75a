/- Lists of messages: whether they are the same, are few. -/
import Derived.Test.YtabekdfijifnfaaQFQ0
import Derived.Test.YtabekdfijifnfaaQFQ9
import Derived.Test.YtabekdfijifnfaaQPBase
import Derived.Test.YtabekdfijifnfaaQPCur
import Derived.Test.YtabekdfijifnfaaQPOct
import Derived.Test.YtabekdfijifnfaaQPTlv
import Derived.Test.YtabekdfijifnfaaQPSub
import Derived.Test.YtabekdfijifnfaaQPMsg
import Derived.Test.YtabekdfijifnfaaQFGood
set_option linter.unusedVariables false
set_option linter.unusedSimpArgs false
set_option maxRecDepth 100000
namespace Go.VP
open Go Go.VI
def Small (m : Msg) : Prop := m.list.length ≤ 1000000000 ∧ m.subs.length ≤ 1000000000
theorem eqB_cons (x y : Msg) (p q : List Msg) : (if (!(eqB x y)) = true then (some ((false, ()), ()) : Option ((Bool × Unit) × Unit)) else some ((eqB p q, ()), ())) = some ((eqB (x :: p) (y :: q), ()), ()) := by
  by_cases he : x = y
  · subst he
    rw [eqB_refl, ifnt]
    have : eqB p q = eqB (x :: p) (x :: q) := by simp [eqB]
    rw [this]
  · rw [eqB_false he, ifnf, eqB_false]
    intro e; injection e with e _; exact he e
theorem sameE_loop {a b : List Msg} {n : Nat} (hab : a.length = b.length) (hl : a.length ≤ 1000000) (hs : ∀ m ∈ a, Small m) : ∀ (d m i : Nat), i + d = a.length → d < m → L_ref07_SameAll_0 n m a b i = some ((eqB (a.drop i) (b.drop i), ()), ()) := by
  intro d
  induction d with
  | zero =>
    intro m i hd hm
    obtain ⟨m, rfl⟩ : ∃ k, m = k + 1 := ⟨m - 1, by omega⟩
    rw [L_ref07_SameAll_0_eq, ifn (by omega), List.drop_eq_nil_of_le (by omega), List.drop_eq_nil_of_le (by omega), eqB_refl]
  | succ d ih =>
    intro m i hd hm
    obtain ⟨m, rfl⟩ : ∃ k, m = k + 1 := ⟨m - 1, by omega⟩
    have hi : i < a.length := by omega
    have hib : i < b.length := by omega
    have := ih m (i + 1) (by omega) (by omega)
    rw [show ((i + 1 : Nat) : Int) = (i : Int) + 1 by omega] at this
    have hm' := hs _ (List.getElem_mem hi)
    have hp : 0 ≤ (i : Int) := by omega
    rw [L_ref07_SameAll_0_eq, ifd (by omega)]
    simp only [if_pos hp, Int.toNat_natCast, List.getElem?_eq_getElem hi, List.getElem?_eq_getElem hib, Option.bind_some]
    rw [same_is hm'.1 hm'.2, Option.bind_some, w64 (by omega) (by omega), this, List.drop_eq_getElem_cons hi, List.drop_eq_getElem_cons hib]
    exact eqB_cons _ _ _ _
theorem sameE_is {a b : List Msg} (hl : a.length ≤ 1000000) (hs : ∀ m ∈ a, Small m) : g_ref07_SameAll (a, b, ()) = some ((eqB a b, ()), ()) := by
  show h_ref07_SameAll fuel (a, b, ()) = _
  rw [h_ref07_SameAll_eq]
  refine ne_step (fun h => ?_) (fun h => ?_)
  · rw [eqB_false]; intro e; subst e; exact h rfl
  · exact sameE_loop (n := fuel) (by omega) hl hs a.length fuel 0 (by omega) (fuel_ge (by omega))
theorem sameA_is {a : List Msg} (hl : a.length ≤ 1000000) (hs : ∀ m ∈ a, Small m) : g_ref07_SameAll (a, a, ()) = some ((true, ()), ()) := by
  rw [sameE_is hl hs, eqB_refl]
theorem goodMsgA {m : Msg} (g : Good_api_Msg m) : GoodMsg m := by
  obtain ⟨g1, g2, g3, g4, g5, g6, g7, g8, g9, g10, g11, g12, g13, g14, g15, g16, g17, g18, g19, g20, g21, _⟩ := g
  exact ⟨g4, g7, g10, g12, g20, g21⟩
theorem fewA_loop {a : List Msg} {n : Nat} (g : ∀ m ∈ a, GoodMsg m) (hl : a.length ≤ 1000) : ∀ (d m i : Nat), i + d = a.length → d < m → ∃ b, L_ref07_FewAll_0 n m a i = some ((b, ()), ()) ∧ (b = true → ∀ m ∈ a.drop i, Few m) := by
  intro d
  induction d with
  | zero =>
    intro m i hd hm
    obtain ⟨m, rfl⟩ : ∃ k, m = k + 1 := ⟨m - 1, by omega⟩
    rw [L_ref07_FewAll_0_eq, ifn (by omega)]
    exact ⟨true, rfl, fun _ m hm => by rw [List.drop_eq_nil_of_le (by omega)] at hm; cases hm⟩
  | succ d ih =>
    intro m i hd hm
    obtain ⟨m, rfl⟩ : ∃ k, m = k + 1 := ⟨m - 1, by omega⟩
    have hi : i < a.length := by omega
    obtain ⟨b, h1, h2⟩ := ih m (i + 1) (by omega) (by omega)
    rw [show ((i + 1 : Nat) : Int) = (i : Int) + 1 by omega] at h1
    obtain ⟨c, k1, k2⟩ := few_is (g _ (List.getElem_mem hi))
    rw [L_ref07_FewAll_0_eq, ifd (by omega), if_pos (by omega), Int.toNat_natCast, bind_at hi, k1, Option.bind_some, w64 (by omega) (by omega), h1]
    cases c with
    | false => exact ⟨false, rfl, fun h => by cases h⟩
    | true =>
      refine ⟨b, rfl, fun h m hm => ?_⟩
      rw [List.drop_eq_getElem_cons hi] at hm
      rcases List.mem_cons.1 hm with rfl | hm
      · exact k2 rfl
      · exact h2 h m hm
theorem fewA_is {a : List Msg} {k : Int} (hk : k ≤ 1000) (g : ∀ m ∈ a, GoodMsg m) : ∃ b, g_ref07_FewAll (a, k, ()) = some ((b, ()), ()) ∧ (b = true → a.length ≤ k ∧ ∀ m ∈ a, Few m) := by
  show ∃ b, h_ref07_FewAll fuel (a, k, ()) = _ ∧ _
  rw [h_ref07_FewAll_eq]
  by_cases h : k < (a.length : Int)
  · rw [ifd h]; exact ⟨false, rfl, fun h => by cases h⟩
  · rw [ifn h]
    obtain ⟨b, h1, h2⟩ := fewA_loop (n := fuel) g (by omega) a.length fuel 0 (by omega) (fuel_ge (by omega))
    exact ⟨b, h1, fun hb => ⟨by omega, fun m hm => h2 hb m (by simpa using hm)⟩⟩
end Go.VP
