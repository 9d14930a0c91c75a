/- The Update as it stands, of a TLV. -/
import Derived.Test.YtngoadonappnnaaFQ4
import Derived.Test.YtngoadonappnnaaFQ8
import Derived.Test.YtngoadonappnnaaPBase
import Derived.Test.YtngoadonappnnaaPCur
import Derived.Test.YtngoadonappnnaaPOct
import Derived.Test.YtngoadonappnnaaPTlv
import Derived.Test.YtngoadonappnnaaPSub
import Derived.Test.YtngoadonappnnaaPMsg
import Derived.Test.YtngoadonappnnaaPAddr
import Derived.Test.YtngoadonappnnaaPBits
import Derived.Test.YtngoadonappnnaaPField
import Derived.Test.YtngoadonappnnaaPFieldG
import Derived.Test.YtngoadonappnnaaPRoute
import Derived.Test.YtngoadonappnnaaPRouteG
set_option linter.unusedVariables false
set_option linter.unusedSimpArgs false
set_option maxRecDepth 100000
namespace Go.VP
open Go Go.VI
def takeG (d : Bs) : Raw × Bool × Int :=
  if (d.length : Int) < 10 then (raw0, false, 2)
  else if 3 < bt d 0 then (raw0, false, 0)
  else
    let b := preF d 10 (bt d 0) (bt d 2) (bt d 3)
    if b.2 ≠ 0 then (raw0, false, b.2)
    else
      let x := getS (d.drop (10 + restN (bt d 0) (bt d 2) (bt d 3)).toNat)
      if x.2.2 ≠ 0 then (raw0, false, x.2.2)
      else (⟨bt d 0, bt d 1, bt d 2, bt d 3, num (cut_ d 4 2), num (cut_ d 6 2), num (cut_ d 8 2), if x.2.1 = true then 1 else 0, b.1, x.1⟩, true, 0)
theorem take_is {ty at_ : Int} {d : Bs} (hd : d.length ≤ 1000) : g_route_Take (⟨ty, at_, d⟩, ()) = some (trip (takeG d), ()) := by
  have b0 := bt_rng d 0
  have b2 := bt_rng d 2
  have b3 := bt_rng d 3
  obtain ⟨c, hc⟩ := fuel_pos
  have f4 : fuel = (c + 999999999995) + 5 := by omega
  have f3 : fuel = (c + 999999999996) + 4 := by omega
  have nw := new_is d
  have st0 : ∀ (k : Nat) (a b e f : Int) (s : Bs) (p q : Int) (x : Bool) (i : Int), i < 4 → True := fun _ _ _ _ _ _ _ _ _ _ _ => trivial
  obtain ⟨v1, q1, c1, e1, j1, k1, l1, _⟩ := rn_any (d := d) (p := 0) (n := 1) (b := false) (by omega) (by omega) (by omega) (by omega)
  obtain ⟨v2, q2, c2, e2, j2, k2, l2, _⟩ := rn_any (d := d) (p := q1) (n := 1) (b := c1) (by omega) j1 k1 (by omega)
  obtain ⟨v3, q3, c3, e3, j3, k3, l3, _⟩ := rn_any (d := d) (p := q2) (n := 1) (b := c2) (by omega) j2 k2 (by omega)
  obtain ⟨v4, q4, c4, e4, j4, k4, l4, _⟩ := rn_any (d := d) (p := q3) (n := 1) (b := c3) (by omega) j3 k3 (by omega)
  obtain ⟨v5, q5, c5, e5, j5, k5, l5, _⟩ := rn_any (d := d) (p := q4) (n := 2) (b := c4) (by omega) j4 k4 (by omega)
  obtain ⟨v6, q6, c6, e6, j6, k6, l6, _⟩ := rn_any (d := d) (p := q5) (n := 2) (b := c5) (by omega) j5 k5 (by omega)
  obtain ⟨v7, q7, c7, e7, j7, k7, l7, _⟩ := rn_any (d := d) (p := q6) (n := 2) (b := c6) (by omega) j6 k6 (by omega)
  have w1 : ∀ i : Int, 0 ≤ i → i < 100 → IntKind.wrap .i64 (i + 1) = i + 1 := fun i h0 h1 => w64 (by omega) (by omega)
  have run : g_route_Take (⟨ty, at_, d⟩, ()) = (if c7 = true then some ((raw0, false, 2, ()), ()) else (if (decide (3 < v1)) = true then some ((raw0, false, 0, ()), ()) else ((g_route_reader_prefix (rrd d q7 c7, v1, v3, v4, ())).bind fun r9 => (if (r9.1.2.1 != 0) = true then some ((raw0, false, r9.1.2.1, ()), ()) else ((g_route_reader_rest (r9.2.1, ())).bind fun r10 => (if (r10.1.2.2.1 != 0) = true then some ((raw0, false, r10.1.2.2.1, ()), ()) else (if r10.1.2.1 = true then some (((S_api_Raw.mk v1 v2 v3 v4 v5 v6 v7 1 r9.1.1 r10.1.1), true, 0, ()), ()) else some (((S_api_Raw.mk v1 v2 v3 v4 v5 v6 v7 0 r9.1.1 r10.1.1), true, 0, ()), ())))))))) := by
    show h_route_Take fuel _ = _
    rw [h_route_Take_eq]
    dsimp only
    rw [nw, Option.bind_some]
    dsimp only
    have z : ∀ n : Nat, L_route_Take_0 n fuel 0 0 0 0 d 0 d.length false 0 = L_route_Take_0 n ((c + 999999999995) + 5) 0 0 0 0 d 0 d.length false 0 := fun n => by rw [← f4]
    have z2 : ∀ n : Nat, L_route_Take_1 n fuel v1 v2 v3 v4 0 0 0 d q4 d.length c4 0 = L_route_Take_1 n ((c + 999999999996) + 4) v1 v2 v3 v4 0 0 0 d q4 d.length c4 0 := fun n => by rw [← f3]
    rw [z, L_route_Take_0_eq, if_pos (show decide ((0 : Int) < 4) = true from rfl), if_pos (show (0 : Int) = 0 from rfl), e1, Option.bind_some, w1 0 (by omega) (by omega)]
    dsimp only
    rw [L_route_Take_0_eq, if_pos (show decide ((0 : Int) + 1 < 4) = true from rfl), if_neg (show ¬ (0 : Int) + 1 = 0 by decide), if_pos (show (0 : Int) + 1 = 1 from rfl), e2, Option.bind_some, w1 (0 + 1) (by omega) (by omega)]
    dsimp only
    rw [L_route_Take_0_eq, if_pos (show decide ((0 : Int) + 1 + 1 < 4) = true from rfl), if_neg (show ¬ (0 : Int) + 1 + 1 = 0 by decide), if_neg (show ¬ (0 : Int) + 1 + 1 = 1 by decide), if_pos (show (0 : Int) + 1 + 1 = 2 from rfl), e3, Option.bind_some, w1 (0 + 1 + 1) (by omega) (by omega)]
    dsimp only
    rw [L_route_Take_0_eq, if_pos (show decide ((0 : Int) + 1 + 1 + 1 < 4) = true from rfl), if_neg (show ¬ (0 : Int) + 1 + 1 + 1 = 0 by decide), if_neg (show ¬ (0 : Int) + 1 + 1 + 1 = 1 by decide), if_neg (show ¬ (0 : Int) + 1 + 1 + 1 = 2 by decide), if_pos (show (0 : Int) + 1 + 1 + 1 = 3 from rfl), e4, Option.bind_some, w1 (0 + 1 + 1 + 1) (by omega) (by omega)]
    dsimp only
    rw [L_route_Take_0_eq, if_neg (show ¬ decide ((0 : Int) + 1 + 1 + 1 + 1 < 4) = true by decide), z2, L_route_Take_1_eq, if_pos (show decide ((0 : Int) < 3) = true from rfl), if_pos (show (0 : Int) = 0 from rfl), e5, Option.bind_some, w1 0 (by omega) (by omega)]
    dsimp only
    rw [L_route_Take_1_eq, if_pos (show decide ((0 : Int) + 1 < 3) = true from rfl), if_neg (show ¬ (0 : Int) + 1 = 0 by decide), if_pos (show (0 : Int) + 1 = 1 from rfl), e6, Option.bind_some, w1 (0 + 1) (by omega) (by omega)]
    dsimp only
    rw [L_route_Take_1_eq, if_pos (show decide ((0 : Int) + 1 + 1 < 3) = true from rfl), if_neg (show ¬ (0 : Int) + 1 + 1 = 0 by decide), if_neg (show ¬ (0 : Int) + 1 + 1 = 1 by decide), if_pos (show (0 : Int) + 1 + 1 = 2 from rfl), e7, Option.bind_some, w1 (0 + 1 + 1) (by omega) (by omega)]
    dsimp only
    rw [L_route_Take_1_eq, if_neg (show ¬ decide ((0 : Int) + 1 + 1 + 1 < 3) = true by decide)]
  rw [run]
  unfold takeG
  by_cases hl : (d.length : Int) < 10
  · have hc7 : c7 = true := by
      cases c7 with
      | true => rfl
      | false =>
        obtain ⟨rfl, g7⟩ := l7 rfl
        obtain ⟨rfl, g6⟩ := l6 rfl
        obtain ⟨rfl, g5⟩ := l5 rfl
        obtain ⟨rfl, g4⟩ := l4 rfl
        obtain ⟨rfl, g3⟩ := l3 rfl
        obtain ⟨rfl, g2⟩ := l2 rfl
        obtain ⟨_, g1⟩ := l1 rfl
        omega
    rw [if_pos hc7, if_pos hl]
  · -- all is read
    have one : ∀ {p n v q : Int} {c : Bool}, g_route_reader_num (rrd d p false, n, ()) = some ((v, ()), (rrd d q c, ())) → 0 ≤ p → (1 ≤ n ∧ n ≤ 7) → p + n ≤ d.length → v = num (cut_ d p n) ∧ q = p + n ∧ c = false := by
      intro p n v q c h h0 hn hl
      rw [rn_ok (by omega) h0 hn hl] at h
      simp only [Option.some.injEq, Prod.mk.injEq, and_true, S_route_reader.mk.injEq, true_and] at h
      exact ⟨h.1.symm, h.2.1.symm, h.2.2.symm⟩
    obtain ⟨rfl, rfl, rfl⟩ := one e1 (by omega) (by omega) (by omega)
    obtain ⟨rfl, rfl, rfl⟩ := one e2 (by omega) (by omega) (by omega)
    obtain ⟨rfl, rfl, rfl⟩ := one e3 (by omega) (by omega) (by omega)
    obtain ⟨rfl, rfl, rfl⟩ := one e4 (by omega) (by omega) (by omega)
    obtain ⟨rfl, rfl, rfl⟩ := one e5 (by omega) (by omega) (by omega)
    obtain ⟨rfl, rfl, rfl⟩ := one e6 (by omega) (by omega) (by omega)
    obtain ⟨rfl, rfl, rfl⟩ := one e7 (by omega) (by omega) (by omega)
    rw [iff_, if_neg hl, num1_bt (p := 0) (q := 0) rfl (by omega), num1_bt (p := 1) (q := 0 + 1) rfl (by omega), num1_bt (p := 2) (q := 0 + 1 + 1) rfl (by omega), num1_bt (p := 3) (q := 0 + 1 + 1 + 1) rfl (by omega)]
    by_cases ha : 3 < bt d 0
    · rw [ifd ha, if_pos ha]
    · have hae : 0 ≤ bt d 0 ∧ bt d 0 < 4 := by omega
      obtain ⟨r, e3, e4⟩ := pre_is (d := d) (p := 0 + 1 + 1 + 1 + 1 + 2 + 2 + 2) (ae := bt d 0) (plen := bt d 2) (om := bt d 3) (by omega) (by omega) (by omega) hae (by omega) (by omega)
      rw [ifn ha, if_neg ha, e3, Option.bind_some]
      dsimp only
      rw [show (0 : Int) + 1 + 1 + 1 + 1 + 2 + 2 + 2 = 10 from rfl] at e4 ⊢
      by_cases hp : (preF d 10 (bt d 0) (bt d 2) (bt d 3)).2 = 0
      · obtain ⟨rfl, g1, g2⟩ := e4 hp
        obtain ⟨r', e5⟩ := rest_is (d := d) (p := 10 + restN (bt d 0) (bt d 2) (bt d 3)) (by omega) (by omega) g2
        rw [hp, if_neg (show ¬ ((0 : Int) != 0) = true by decide), if_neg (show ¬ (0 : Int) ≠ 0 by decide), e5, Option.bind_some]
        dsimp only [trip]
        generalize getS (d.drop (10 + restN (bt d 0) (bt d 2) (bt d 3)).toNat) = x
        obtain ⟨x1, x2, x3⟩ := x
        dsimp only
        by_cases hx : x3 = 0
        · subst hx
          cases x2 <;> rfl
        · rw [if_pos (show (x3 != 0) = true by simp [hx]), if_pos hx]
      · rw [if_pos (show ((preF d 10 (bt d 0) (bt d 2) (bt d 3)).2 != 0) = true by simp [hp]), if_pos hp]
theorem rtake_is {ty at_ : Int} {d : Bs} (hd : d.length ≤ 1000) : g_ref21_Take (⟨ty, at_, d⟩, ()) = some (trip (takeG d), ()) := by
  have b0 := bt_rng d 0
  have b2 := bt_rng d 2
  have b3 := bt_rng d 3
  rw [g_ref21_Take_eq]
  dsimp only
  unfold takeG
  by_cases hl : (d.length : Int) < 10
  · rw [ifd hl, if_pos hl]
  · have nc : ∀ p : Nat, p + 2 ≤ d.length → g_ref08_Number (cut_ d p 2, ()) = some ((num (cut_ d p 2), ()), ()) := fun p h => number_is (by have := cut_length (s := d) (p := p) (n := 2) (by omega) (by omega) (by omega); omega)
    have n4 : g_ref08_Number (cut_ d 4 2, ()) = some ((num (cut_ d 4 2), ()), ()) := nc 4 (by omega)
    have n6 : g_ref08_Number (cut_ d 6 2, ()) = some ((num (cut_ d 6 2), ()), ()) := nc 6 (by omega)
    have n8 : g_ref08_Number (cut_ d 8 2, ()) = some ((num (cut_ d 8 2), ()), ()) := nc 8 (by omega)
    have c4 : (d.take 6).drop 4 = cut_ d 4 2 := cut_take (p := 4) (n := 2) (q := 6) rfl
    have c6 : (d.take 8).drop 6 = cut_ d 6 2 := cut_take (p := 6) (n := 2) (q := 8) rfl
    have c8 : (d.take 10).drop 8 = cut_ d 8 2 := cut_take (p := 8) (n := 2) (q := 10) rfl
    rw [ifn hl, if_neg hl, bind_at (show 0 < d.length by omega), bind_at (show 1 < d.length by omega), bind_at (show 2 < d.length by omega), bind_at (show 3 < d.length by omega), wbt (show 0 < d.length by omega), wbt (show 1 < d.length by omega), wbt (show 2 < d.length by omega), wbt (show 3 < d.length by omega), if_pos (by omega), c4, n4, Option.bind_some, if_pos (by omega), c6, n6, Option.bind_some, if_pos (by omega), c8, n8, Option.bind_some]
    by_cases ha : 3 < bt d 0
    · rw [ifd ha, if_pos ha]
    · have hae : 0 ≤ bt d 0 ∧ bt d 0 < 4 := by omega
      have hl2 := leastF_rng (n := bt d 2) (by omega)
      have hb2 := baseA_rng (bt d 0)
      rw [ifn ha, if_neg ha, great_is hae b2.1, Option.bind_some]
      dsimp only
      cases hg : greatB (bt d 0) (bt d 2) with
      | true => rw [ift, preF_great hg]; rfl
      | false =>
        have er : leastF (bt d 2) - baseA (bt d 0) - bt d 3 = restN (bt d 0) (bt d 2) (bt d 3) := rfl
        have hr2 : restN (bt d 0) (bt d 2) (bt d 3) ≤ 100 ∧ -1000 ≤ restN (bt d 0) (bt d 2) (bt d 3) := by rw [← er]; omega
        rw [iff_, rleast_is (by omega), Option.bind_some, rbase_is hae, Option.bind_some]
        dsimp only
        rw [w64 (x := leastF (bt d 2) - baseA (bt d 0)) (by omega) (by omega), w64 (x := leastF (bt d 2) - baseA (bt d 0) - bt d 3) (by omega) (by omega), er, w64 (x := 10 + restN (bt d 0) (bt d 2) (bt d 3)) (by omega) (by omega)]
        by_cases hn : restN (bt d 0) (bt d 2) (bt d 3) < 0
        · have : preF d 10 (bt d 0) (bt d 2) (bt d 3) = ([], 6) := by unfold preF; rw [if_pos (.inr hn)]
          rw [ifd hn, this]; rfl
        · rw [ifn hn]
          by_cases hs : (d.length : Int) < 10 + restN (bt d 0) (bt d 2) (bt d 3)
          · rw [ifd hs, preF_short hg (by omega) hs]; rfl
          · have ec : (d.take (10 + restN (bt d 0) (bt d 2) (bt d 3)).toNat).drop 10 = cut_ d 10 (restN (bt d 0) (bt d 2) (bt d 3)) := rfl
            rw [ifn hs, preF_fine hg (by omega) hs, if_pos (by omega), rsget_is (by simp; omega), Option.bind_some, ec]
            dsimp only [trip]
            rw [if_neg (show ¬ (0 : Int) ≠ 0 by decide)]
            generalize getS (d.drop (10 + restN (bt d 0) (bt d 2) (bt d 3)).toNat) = x
            obtain ⟨x1, x2, x3⟩ := x
            dsimp only
            by_cases hx : x3 = 0
            · subst hx
              rw [if_neg (show ¬ ((0 : Int) != 0) = true by decide), if_pos (show 0 ≤ (10 : Int) ∧ (10 : Int) ≤ 10 + restN (bt d 0) (bt d 2) (bt d 3) ∧ 10 + restN (bt d 0) (bt d 2) (bt d 3) ≤ (d.length : Int) by omega)]
              cases x2 <;> rfl
            · rw [if_pos (show (x3 != 0) = true by simp [hx]), if_pos hx]
end Go.VP
