import Derived.Test.YtbjjekbhopgonaaGreatG3FQ15
import Derived.Test.YtbjjekbhopgonaaGreatG3M0
import Derived.Test.YtbjjekbhopgonaaGreatG3M1
import Derived.Test.YtbjjekbhopgonaaGreatG3FH
import Derived.Test.YtbjjekbhopgonaaGreatG3M2
import Derived.Test.YtbjjekbhopgonaaGreatG3FGood
set_option linter.unusedVariables false
set_option linter.unusedSimpArgs false
set_option maxRecDepth 100000
namespace Go.VP
open Go Go.VI
theorem total_loop {n : Nat} {p : Int} {r : (List Msg × Int × Int × Unit) × Unit} {l : List Msg} (hr : r = ((l, 0, 0, ()), ())) (hl : l.length ≤ 100000) (hg : ∀ m ∈ l, rightP p m = true ∧ GoodP p m) : ∀ (d k i : Nat), i + d = l.length → d < k → L_top_WholeTotal_0 n k r p i = some ((true, ()), ()) := by
  subst hr
  intro d
  induction d with
  | zero =>
    intro k i h hk
    obtain ⟨k, rfl⟩ : ∃ j, k = j + 1 := ⟨k - 1, by omega⟩
    rw [L_top_WholeTotal_0_eq]
    dsimp only
    rw [ifn (by omega), awbT]
    rfl
  | succ d ih =>
    intro k i h hk
    obtain ⟨k, rfl⟩ : ∃ j, k = j + 1 := ⟨k - 1, by omega⟩
    have hi : i < l.length := by omega
    obtain ⟨g1, g2⟩ := hg _ (List.getElem_mem hi)
    have := ih k (i + 1) (by omega) (by omega)
    rw [show ((i + 1 : Nat) : Int) = (i : Int) + 1 by omega] at this
    rw [L_top_WholeTotal_0_eq]
    dsimp only
    rw [ifd (by omega), if_pos (by omega), Int.toNat_natCast, bind_at hi, rsright_p g2, Option.bind_some, g1, w64 (by omega) (by omega), this]
    exact ifnt
theorem wholeTotal_pure (x0 : Int) (g0 : Good_uint8 x0) (x1 : List UInt8) (g1 : Good_string x1) : g_top_WholeTotal (x0, x1, ()) = some ((true, ()), ()) := by
  have hk := kind4 (has8.1 g0.1)
  show h_top_WholeTotal fuel _ = _
  rw [h_top_WholeTotal_eq]
  refine dq_step' (fun _ => awbT _) (fun h => ?_)
  generalize IntKind.wrap .i64 (1 + IntKind.wrap .i64 (x0.tmod 4)) = p at *
  have hb : x1.length ≤ 100000 := by omega
  rw [sparse_is hb, Option.bind_some]
  refine ne_step (fun he => ?_) (fun he => ?_)
  · obtain ⟨e1, e2, e3⟩ := p_parseerr he
    rw [awbT]
    dsimp only [trip]
    rw [ift, e1, if_pos (by simp), ifd e2, decide_eq_true e3]
  · obtain ⟨k0, k1, k2, _⟩ := p_parsed hb he
    exact total_loop (n := fuel) (p := p) (l := (parseP p x1).1) (by dsimp only [trip]; rw [k0, show (parseP p x1).2.2 = 0 from he]) (by omega) (fun m hm => ⟨(k1 m hm).1, (k1 m hm).2.1⟩) (parseP p x1).1.length fuel 0 (by omega) (fuel_ge (by omega))
end Go.VP
