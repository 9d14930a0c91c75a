import Derived.Test.YtbjjekbhopgonaaGreatG4FQ3
import Derived.Test.YtbjjekbhopgonaaGreatG4FQ9
import Derived.Test.YtbjjekbhopgonaaGreatG4M0
import Derived.Test.YtbjjekbhopgonaaGreatG4FQ7
import Derived.Test.YtbjjekbhopgonaaGreatG4FQ4
import Derived.Test.YtbjjekbhopgonaaGreatG4FQ2
import Derived.Test.YtbjjekbhopgonaaGreatG4FQ10
import Derived.Test.YtbjjekbhopgonaaGreatG4FQ11
import Derived.Test.YtbjjekbhopgonaaGreatG4FH
import Derived.Test.YtbjjekbhopgonaaGreatG4FQ8
import Derived.Test.YtbjjekbhopgonaaGreatG4FQ15
import Derived.Test.YtbjjekbhopgonaaGreatG4FQ0
import Derived.Test.YtbjjekbhopgonaaGreatG4FQ1
set_option linter.unusedVariables false
set_option linter.unusedSimpArgs false
set_option maxRecDepth 100000
namespace Go.VP
open Go Go.VI
def takeG (d : Bs) : Raw × Bool × Int :=
  if (d.length : Int) < 10 then (raw0, false, 2)
  else if 3 < bt d 0 then (raw0, false, 0)
  else
    let b := preF d 10 (bt d 0) (bt d 2) (bt d 3)
    if b.2 ≠ 0 then (raw0, false, b.2)
    else
      let x := getS (d.drop (10 + restN (bt d 0) (bt d 2) (bt d 3)).toNat)
      if x.2.2 ≠ 0 then (raw0, false, x.2.2)
      else (⟨bt d 0, bt d 1, bt d 2, bt d 3, num (cut_ d 4 2), num (cut_ d 6 2), num (cut_ d 8 2), if x.2.1 = true then 1 else 0, b.1, x.1⟩, true, 0)
theorem take_is {ty at_ : Int} {d : Bs} (hd : d.length ≤ 1000) : g_route_Take (⟨ty, at_, d⟩, ()) = some (trip (takeG d), ()) := by
  have b0 := bt_rng d 0
  have b2 := bt_rng d 2
  have b3 := bt_rng d 3
  obtain ⟨c, hc⟩ := fuel_pos
  have f4 : fuel = (c + 999999999995) + 5 := by omega
  have f3 : fuel = (c + 999999999996) + 4 := by omega
  have nw := new_is d
  have st0 : ∀ (k : Nat) (a b e f : Int) (s : Bs) (p q : Int) (x : Bool) (i : Int), i < 4 → True := fun _ _ _ _ _ _ _ _ _ _ _ => trivial
  obtain ⟨v1, q1, c1, e1, j1, k1, l1, _⟩ := rn_any (d := d) (p := 0) (n := 1) (b := false) (by omega) (by omega) (by omega) (by omega)
  obtain ⟨v2, q2, c2, e2, j2, k2, l2, _⟩ := rn_any (d := d) (p := q1) (n := 1) (b := c1) (by omega) j1 k1 (by omega)
  obtain ⟨v3, q3, c3, e3, j3, k3, l3, _⟩ := rn_any (d := d) (p := q2) (n := 1) (b := c2) (by omega) j2 k2 (by omega)
  obtain ⟨v4, q4, c4, e4, j4, k4, l4, _⟩ := rn_any (d := d) (p := q3) (n := 1) (b := c3) (by omega) j3 k3 (by omega)
  obtain ⟨v5, q5, c5, e5, j5, k5, l5, _⟩ := rn_any (d := d) (p := q4) (n := 2) (b := c4) (by omega) j4 k4 (by omega)
  obtain ⟨v6, q6, c6, e6, j6, k6, l6, _⟩ := rn_any (d := d) (p := q5) (n := 2) (b := c5) (by omega) j5 k5 (by omega)
  obtain ⟨v7, q7, c7, e7, j7, k7, l7, _⟩ := rn_any (d := d) (p := q6) (n := 2) (b := c6) (by omega) j6 k6 (by omega)
  have w1 : ∀ i : Int, 0 ≤ i → i < 100 → IntKind.wrap .i64 (i + 1) = i + 1 := fun i h0 h1 => w64 (by omega) (by omega)
  have run : g_route_Take (⟨ty, at_, d⟩, ()) = (if c7 = true then some ((raw0, false, 2, ()), ()) else (if (decide (3 < v1)) = true then some ((raw0, false, 0, ()), ()) else ((g_route_reader_prefix (rrd d q7 c7, v1, v3, v4, ())).bind fun r9 => (if (r9.1.2.1 != 0) = true then some ((raw0, false, r9.1.2.1, ()), ()) else ((g_route_reader_rest (r9.2.1, ())).bind fun r10 => (if (r10.1.2.2.1 != 0) = true then some ((raw0, false, r10.1.2.2.1, ()), ()) else (if r10.1.2.1 = true then some (((S_api_Raw.mk v1 v2 v3 v4 v5 v6 v7 1 r9.1.1 r10.1.1), true, 0, ()), ()) else some (((S_api_Raw.mk v1 v2 v3 v4 v5 v6 v7 0 r9.1.1 r10.1.1), true, 0, ()), ())))))))) := by
    show h_route_Take fuel _ = _
    rw [h_route_Take_eq]
    dsimp only
    rw [nw, Option.bind_some]
    dsimp only
    have z : ∀ n : Nat, L_route_Take_0 n fuel 0 0 0 0 d 0 d.length false 0 = L_route_Take_0 n ((c + 999999999995) + 5) 0 0 0 0 d 0 d.length false 0 := fun n => by rw [← f4]
    have z2 : ∀ n : Nat, L_route_Take_1 n fuel v1 v2 v3 v4 0 0 0 d q4 d.length c4 0 = L_route_Take_1 n ((c + 999999999996) + 4) v1 v2 v3 v4 0 0 0 d q4 d.length c4 0 := fun n => by rw [← f3]
    rw [z, L_route_Take_0_eq, if_pos (show decide ((0 : Int) < 4) = true from rfl), if_pos (show (0 : Int) = 0 from rfl), e1, Option.bind_some, w1 0 (by omega) (by omega)]
    dsimp only
    rw [L_route_Take_0_eq, if_pos (show decide ((0 : Int) + 1 < 4) = true from rfl), if_neg (show ¬ (0 : Int) + 1 = 0 by decide), if_pos (show (0 : Int) + 1 = 1 from rfl), e2, Option.bind_some, w1 (0 + 1) (by omega) (by omega)]
    dsimp only
    rw [L_route_Take_0_eq, if_pos (show decide ((0 : Int) + 1 + 1 < 4) = true from rfl), if_neg (show ¬ (0 : Int) + 1 + 1 = 0 by decide), if_neg (show ¬ (0 : Int) + 1 + 1 = 1 by decide), if_pos (show (0 : Int) + 1 + 1 = 2 from rfl), e3, Option.bind_some, w1 (0 + 1 + 1) (by omega) (by omega)]
    dsimp only
    rw [L_route_Take_0_eq, if_pos (show decide ((0 : Int) + 1 + 1 + 1 < 4) = true from rfl), if_neg (show ¬ (0 : Int) + 1 + 1 + 1 = 0 by decide), if_neg (show ¬ (0 : Int) + 1 + 1 + 1 = 1 by decide), if_neg (show ¬ (0 : Int) + 1 + 1 + 1 = 2 by decide), if_pos (show (0 : Int) + 1 + 1 + 1 = 3 from rfl), e4, Option.bind_some, w1 (0 + 1 + 1 + 1) (by omega) (by omega)]
    dsimp only
    rw [L_route_Take_0_eq, if_neg (show ¬ decide ((0 : Int) + 1 + 1 + 1 + 1 < 4) = true by decide), z2, L_route_Take_1_eq, if_pos (show decide ((0 : Int) < 3) = true from rfl), if_pos (show (0 : Int) = 0 from rfl), e5, Option.bind_some, w1 0 (by omega) (by omega)]
    dsimp only
    rw [L_route_Take_1_eq, if_pos (show decide ((0 : Int) + 1 < 3) = true from rfl), if_neg (show ¬ (0 : Int) + 1 = 0 by decide), if_pos (show (0 : Int) + 1 = 1 from rfl), e6, Option.bind_some, w1 (0 + 1) (by omega) (by omega)]
    dsimp only
    rw [L_route_Take_1_eq, if_pos (show decide ((0 : Int) + 1 + 1 < 3) = true from rfl), if_neg (show ¬ (0 : Int) + 1 + 1 = 0 by decide), if_neg (show ¬ (0 : Int) + 1 + 1 = 1 by decide), if_pos (show (0 : Int) + 1 + 1 = 2 from rfl), e7, Option.bind_some, w1 (0 + 1 + 1) (by omega) (by omega)]
    dsimp only
    rw [L_route_Take_1_eq, if_neg (show ¬ decide ((0 : Int) + 1 + 1 + 1 < 3) = true by decide)]
  rw [run]
  unfold takeG
  by_cases hl : (d.length : Int) < 10
  · have hc7 : c7 = true := by
      cases c7 with
      | true => rfl
      | false =>
        obtain ⟨rfl, g7⟩ := l7 rfl
        obtain ⟨rfl, g6⟩ := l6 rfl
        obtain ⟨rfl, g5⟩ := l5 rfl
        obtain ⟨rfl, g4⟩ := l4 rfl
        obtain ⟨rfl, g3⟩ := l3 rfl
        obtain ⟨rfl, g2⟩ := l2 rfl
        obtain ⟨_, g1⟩ := l1 rfl
        omega
    rw [if_pos hc7, if_pos hl]
  ·
    have one : ∀ {p n v q : Int} {c : Bool}, g_route_reader_num (rrd d p false, n, ()) = some ((v, ()), (rrd d q c, ())) → 0 ≤ p → (1 ≤ n ∧ n ≤ 7) → p + n ≤ d.length → v = num (cut_ d p n) ∧ q = p + n ∧ c = false := by
      intro p n v q c h h0 hn hl
      rw [rn_ok (by omega) h0 hn hl] at h
      simp only [Option.some.injEq, Prod.mk.injEq, and_true, S_route_reader.mk.injEq, true_and] at h
      exact ⟨h.1.symm, h.2.1.symm, h.2.2.symm⟩
    obtain ⟨rfl, rfl, rfl⟩ := one e1 (by omega) (by omega) (by omega)
    obtain ⟨rfl, rfl, rfl⟩ := one e2 (by omega) (by omega) (by omega)
    obtain ⟨rfl, rfl, rfl⟩ := one e3 (by omega) (by omega) (by omega)
    obtain ⟨rfl, rfl, rfl⟩ := one e4 (by omega) (by omega) (by omega)
    obtain ⟨rfl, rfl, rfl⟩ := one e5 (by omega) (by omega) (by omega)
    obtain ⟨rfl, rfl, rfl⟩ := one e6 (by omega) (by omega) (by omega)
    obtain ⟨rfl, rfl, rfl⟩ := one e7 (by omega) (by omega) (by omega)
    rw [iff_, if_neg hl, num1_bt (p := 0) (q := 0) rfl (by omega), num1_bt (p := 1) (q := 0 + 1) rfl (by omega), num1_bt (p := 2) (q := 0 + 1 + 1) rfl (by omega), num1_bt (p := 3) (q := 0 + 1 + 1 + 1) rfl (by omega)]
    by_cases ha : 3 < bt d 0
    · rw [ifd ha, if_pos ha]
    · have hae : 0 ≤ bt d 0 ∧ bt d 0 < 4 := by omega
      obtain ⟨r, e3, e4⟩ := pre_is (d := d) (p := 0 + 1 + 1 + 1 + 1 + 2 + 2 + 2) (ae := bt d 0) (plen := bt d 2) (om := bt d 3) (by omega) (by omega) (by omega) hae (by omega) (by omega)
      rw [ifn ha, if_neg ha, e3, Option.bind_some]
      dsimp only
      rw [show (0 : Int) + 1 + 1 + 1 + 1 + 2 + 2 + 2 = 10 from rfl] at e4 ⊢
      by_cases hp : (preF d 10 (bt d 0) (bt d 2) (bt d 3)).2 = 0
      · obtain ⟨rfl, g1, g2⟩ := e4 hp
        obtain ⟨r', e5⟩ := rest_is (d := d) (p := 10 + restN (bt d 0) (bt d 2) (bt d 3)) (by omega) (by omega) g2
        rw [hp, if_neg (show ¬ ((0 : Int) != 0) = true by decide), if_neg (show ¬ (0 : Int) ≠ 0 by decide), e5, Option.bind_some]
        dsimp only [trip]
        generalize getS (d.drop (10 + restN (bt d 0) (bt d 2) (bt d 3)).toNat) = x
        obtain ⟨x1, x2, x3⟩ := x
        dsimp only
        by_cases hx : x3 = 0
        · subst hx
          cases x2 <;> rfl
        · rw [if_pos (show (x3 != 0) = true by simp [hx]), if_pos hx]
      · rw [if_pos (show ((preF d 10 (bt d 0) (bt d 2) (bt d 3)).2 != 0) = true by simp [hp]), if_pos hp]
theorem rtake_is {ty at_ : Int} {d : Bs} (hd : d.length ≤ 1000) : g_ref21_Take (⟨ty, at_, d⟩, ()) = some (trip (takeG d), ()) := by
  have b0 := bt_rng d 0
  have b2 := bt_rng d 2
  have b3 := bt_rng d 3
  rw [g_ref21_Take_eq]
  dsimp only
  unfold takeG
  by_cases hl : (d.length : Int) < 10
  · rw [ifd hl, if_pos hl]
  · have nc : ∀ p : Nat, p + 2 ≤ d.length → g_ref08_Number (cut_ d p 2, ()) = some ((num (cut_ d p 2), ()), ()) := fun p h => number_is (by have := cut_length (s := d) (p := p) (n := 2) (by omega) (by omega) (by omega); omega)
    have n4 : g_ref08_Number (cut_ d 4 2, ()) = some ((num (cut_ d 4 2), ()), ()) := nc 4 (by omega)
    have n6 : g_ref08_Number (cut_ d 6 2, ()) = some ((num (cut_ d 6 2), ()), ()) := nc 6 (by omega)
    have n8 : g_ref08_Number (cut_ d 8 2, ()) = some ((num (cut_ d 8 2), ()), ()) := nc 8 (by omega)
    have c4 : (d.take 6).drop 4 = cut_ d 4 2 := cut_take (p := 4) (n := 2) (q := 6) rfl
    have c6 : (d.take 8).drop 6 = cut_ d 6 2 := cut_take (p := 6) (n := 2) (q := 8) rfl
    have c8 : (d.take 10).drop 8 = cut_ d 8 2 := cut_take (p := 8) (n := 2) (q := 10) rfl
    rw [ifn hl, if_neg hl, bind_at (show 0 < d.length by omega), bind_at (show 1 < d.length by omega), bind_at (show 2 < d.length by omega), bind_at (show 3 < d.length by omega), wbt (show 0 < d.length by omega), wbt (show 1 < d.length by omega), wbt (show 2 < d.length by omega), wbt (show 3 < d.length by omega), if_pos (by omega), c4, n4, Option.bind_some, if_pos (by omega), c6, n6, Option.bind_some, if_pos (by omega), c8, n8, Option.bind_some]
    by_cases ha : 3 < bt d 0
    · rw [ifd ha, if_pos ha]
    · have hae : 0 ≤ bt d 0 ∧ bt d 0 < 4 := by omega
      have hl2 := leastF_rng (n := bt d 2) (by omega)
      have hb2 := baseA_rng (bt d 0)
      rw [ifn ha, if_neg ha, great_is hae b2.1, Option.bind_some]
      dsimp only
      cases hg : greatB (bt d 0) (bt d 2) with
      | true => rw [ift, preF_great hg]; rfl
      | false =>
        have er : leastF (bt d 2) - baseA (bt d 0) - bt d 3 = restN (bt d 0) (bt d 2) (bt d 3) := rfl
        have hr2 : restN (bt d 0) (bt d 2) (bt d 3) ≤ 100 ∧ -1000 ≤ restN (bt d 0) (bt d 2) (bt d 3) := by rw [← er]; omega
        rw [iff_, rleast_is (by omega), Option.bind_some, rbase_is hae, Option.bind_some]
        dsimp only
        rw [w64 (x := leastF (bt d 2) - baseA (bt d 0)) (by omega) (by omega), w64 (x := leastF (bt d 2) - baseA (bt d 0) - bt d 3) (by omega) (by omega), er, w64 (x := 10 + restN (bt d 0) (bt d 2) (bt d 3)) (by omega) (by omega)]
        by_cases hn : restN (bt d 0) (bt d 2) (bt d 3) < 0
        · have : preF d 10 (bt d 0) (bt d 2) (bt d 3) = ([], 6) := by unfold preF; rw [if_pos (.inr hn)]
          rw [ifd hn, this]; rfl
        · rw [ifn hn]
          by_cases hs : (d.length : Int) < 10 + restN (bt d 0) (bt d 2) (bt d 3)
          · rw [ifd hs, preF_short hg (by omega) hs]; rfl
          · have ec : (d.take (10 + restN (bt d 0) (bt d 2) (bt d 3)).toNat).drop 10 = cut_ d 10 (restN (bt d 0) (bt d 2) (bt d 3)) := rfl
            rw [ifn hs, preF_fine hg (by omega) hs, if_pos (by omega), rsget_is (by simp; omega), Option.bind_some, ec]
            dsimp only [trip]
            rw [if_neg (show ¬ (0 : Int) ≠ 0 by decide)]
            generalize getS (d.drop (10 + restN (bt d 0) (bt d 2) (bt d 3)).toNat) = x
            obtain ⟨x1, x2, x3⟩ := x
            dsimp only
            by_cases hx : x3 = 0
            · subst hx
              rw [if_neg (show ¬ ((0 : Int) != 0) = true by decide), if_pos (show 0 ≤ (10 : Int) ∧ (10 : Int) ≤ 10 + restN (bt d 0) (bt d 2) (bt d 3) ∧ 10 + restN (bt d 0) (bt d 2) (bt d 3) ≤ (d.length : Int) by omega)]
              cases x2 <;> rfl
            · rw [if_pos (show (x3 != 0) = true by simp [hx]), if_pos hx]
end Go.VP
set_option linter.unusedVariables false
set_option linter.unusedSimpArgs false
set_option maxRecDepth 100000
namespace Go.VP
open Go Go.VI
theorem maskN_idem (b k : Nat) : maskN (maskN b k) k = maskN b k := by
  unfold maskN; rw [Nat.mul_div_cancel _ (Nat.pow_pos (by decide))]
theorem maskB_idem (b : UInt8) (k : Int) : maskB (maskB b k) k = maskB b k := by
  apply UInt8.toNat.inj; rw [maskB_toNat, maskB_toNat, maskN_idem]
theorem keepF_idem : ∀ (s : Bs) (n : Int), keepF (keepF s n) n = keepF s n
  | [], _ => rfl
  | b :: r, n => by simp only [keepF, maskB_idem, keepF_idem r]
theorem linkP_len : linkP.length = 8 := rfl
theorem keep_link {x : Bs} {n : Int} (h : 64 ≤ n) (hx : x.length = 8) : linkB (keepF (linkP ++ x) n) = true := by
  rw [keepF_append, keepF_all (s := linkP) (by rw [linkP_len]; omega)]
  exact link_long (by rw [keepF_length]; exact hx)
theorem wholeF_len {ae plen : Int} {b : Bs} (hae : 0 ≤ ae ∧ ae < 4) (hb : (b.length : Int) ≤ szA ae - baseA ae) : ((wholeF ae b plen).length : Int) = szA ae := by
  unfold wholeF
  rw [keepF_length]
  rcases ae_cases hae with rfl | rfl | rfl | rfl
  · have : (b.length : Int) ≤ 0 - 0 := hb
    rw [if_neg (by decide), fillF_length]; show ((max b.length (0 : Int).toNat : Nat) : Int) = 0; omega
  · have : (b.length : Int) ≤ 4 - 0 := hb
    rw [if_neg (by decide), fillF_length]; show ((max b.length (4 : Int).toNat : Nat) : Int) = 4; omega
  · have : (b.length : Int) ≤ 16 - 0 := hb
    rw [if_neg (by decide), fillF_length]; show ((max b.length (16 : Int).toNat : Nat) : Int) = 16; omega
  · have : (b.length : Int) ≤ 16 - 8 := hb
    rw [if_pos rfl, List.length_append, fillF_length, linkP_len]; show ((8 + max b.length (8 : Int).toNat : Nat) : Int) = 16; omega
theorem wholeF_link {plen : Int} {b : Bs} (h : 64 ≤ plen) (hb : b.length ≤ 8) : linkB (wholeF 3 b plen) = true := by
  unfold wholeF
  rw [if_pos rfl]
  exact keep_link h (by rw [fillF_length]; show max b.length 8 = 8; omega)
theorem routeG_cases {ty : Int} {d : Bs} (ht : ty = 9 ∨ ty = 10) (hd : d.length ≤ 300) :
    (∃ m, routeG ty d = (m, true, 0) ∧ RouteR m ∧ GoodM m ∧ (headF m ++ encS m.subs).length ≤ d.length ∧ m.kind = ty + 3) ∨ (∃ e, routeG ty d = (msg0, false, e)) := by
  have b0 := bt_rng d 0
  have b1 := bt_rng d 1
  have b4 := bt_rng d 4
  unfold routeG
  by_cases hl : (d.length : Int) < (if ty = 10 then 14 else 2)
  · rw [if_pos hl]; exact .inr ⟨_, rfl⟩
  rw [if_neg hl]
  by_cases ha : 3 < bt d 0
  · rw [if_pos ha]; exact .inr ⟨_, rfl⟩
  rw [if_neg ha]
  have hae : 0 ≤ bt d 0 ∧ bt d 0 < 4 := by omega
  dsimp only
  have hp0 : (0 : Int) ≤ (if ty = 10 then 14 else 2) ∧ (if ty = 10 then (14 : Int) else 2) ≤ 14 := by split <;> omega
  generalize hP : (if ty = 10 then (14 : Int) else 2) = P at *
  by_cases hb : (preF d P (bt d 0) (bt d 1) 0).2 ≠ 0
  · rw [if_pos hb]; exact .inr ⟨_, rfl⟩
  rw [if_neg hb]
  have hb : (preF d P (bt d 0) (bt d 1) 0).2 = 0 := by simpa using hb
  obtain ⟨f1, f2, f3, f4⟩ := preF_ok hae hp0.1 hb
  have f5 := restN_len hae f2
  have hpl : lowA (bt d 0) ≤ bt d 1 ∧ bt d 1 ≤ highA (bt d 0) := by unfold greatB at f2; simpa using f2
  obtain ⟨l1, l2, l3, l4, l5, l6⟩ := least_base hae hpl
  have hrn : restN (bt d 0) (bt d 1) 0 = leastF (bt d 1) - baseA (bt d 0) := by unfold restN; omega
  rcases getS_cases (d.drop (P + restN (bt d 0) (bt d 1) 0).toNat) with ⟨l, hg, hA, hS, hL, hN⟩ | ⟨l, hg⟩ | ⟨e, hg, _⟩
  · rw [hg]
    dsimp only
    rw [if_neg (show ¬ ((0 : Int) ≠ 0 ∨ true = false) by decide)]
    have wl := wholeF_len (plen := bt d 1) (b := (preF d P (bt d 0) (bt d 1) 0).1) hae (by omega)
    have wc : keepF (wholeF (bt d 0) (preF d P (bt d 0) (bt d 1) 0).1 (bt d 1)) (bt d 1) = wholeF (bt d 0) (preF d P (bt d 0) (bt d 1) 0).1 (bt d 1) := keepF_idem _ _
    have wk : bt d 0 = 3 → linkB (wholeF (bt d 0) (preF d P (bt d 0) (bt d 1) 0).1 (bt d 1)) = true := fun h => by
      rw [h] at hpl ⊢
      have h8 := f5.2.2.2.1 h
      rw [h] at f4 h8
      exact wholeF_link hpl.1 (by omega)
    have bare : ∀ m : Msg, bareOf m = some m → bareB m = true := fun m h => by rw [bareB, h]; exact eqB_refl m
    have sub2 := sub_len (l := l)
    have hle := encS_length l
    have n1000 : ([] : List Dest).length ≤ 1000 := by decide
    have e0 : ([] : Bs).length ≤ 400 := by decide
    have has0 : IntKind.has .i64 0 := has64.2 (by omega)
    have drl : ((d.drop (P + restN (bt d 0) (bt d 1) 0).toNat).length : Int) = d.length - (P + restN (bt d 0) (bt d 1) 0) := by rw [List.length_drop]; omega
    rcases ht with rfl | rfl
    · rw [if_neg (show ¬ (9 : Int) = 10 by decide)] at hP ⊢
      subst hP
      have r : RouteR ⟨12, 0, 0, [], 0, bt d 0, wholeF (bt d 0) (preF d 2 (bt d 0) (bt d 1) 0).1 (bt d 1), bt d 1, 0, [], 0, [], 0, 0, 0, 0, 0, 0, 0, [], [], [], 0, [], l⟩ := ⟨bare _ rfl, rightB_of hA hS, hae, wl, hpl, wc, wk, rfl⟩
      refine .inl ⟨_, rfl, r, ⟨⟨n1000, by dsimp only; omega, e0, by dsimp only; omega, e0, e0, e0, e0, e0, (fun d h => by cases h), hA.few⟩, has0, has0, has0, has0, has64.2 (by dsimp only; omega), has0, has64.2 (by dsimp only; omega), has64.2 (by dsimp only; omega), has0⟩, ?_, rfl⟩
      have hc := r.cut.2
      dsimp only at hc ⊢
      unfold headF
      rw [if_neg (show ¬ (12 : Int) = 13 by decide)]
      simp only [List.length_append, List.length_cons]
      omega
    · rw [if_pos (show (10 : Int) = 10 from rfl)] at hP ⊢
      subst hP
      split
      · exact .inr ⟨_, rfl⟩
      · rename_i h04
        have hq := num_cut_rng (d := d) (p := 2) (by omega) (by omega)
        have hi := cut_length (s := d) (p := 6) (n := 8) (by omega) (by omega) (by omega)
        have kr : kindR ⟨13, 0, 0, [], 0, bt d 0, wholeF (bt d 0) (preF d 14 (bt d 0) (bt d 1) 0).1 (bt d 1), bt d 1, 0, [], 0, cut_ d 6 8, num (cut_ d 2 2), 0, 0, 0, bt d 4, 0, 0, [], [], [], 0, [], l⟩ = true := by
          unfold kindR
          rw [if_neg (show ¬ (13 : Int) = 12 by decide), if_pos rfl]
          simp only [Bool.and_eq_true, decide_eq_true_eq, fitsB2]
          exact ⟨by omega, hq, by omega, by omega⟩
        have r : RouteR ⟨13, 0, 0, [], 0, bt d 0, wholeF (bt d 0) (preF d 14 (bt d 0) (bt d 1) 0).1 (bt d 1), bt d 1, 0, [], 0, cut_ d 6 8, num (cut_ d 2 2), 0, 0, 0, bt d 4, 0, 0, [], [], [], 0, [], l⟩ := ⟨bare _ rfl, rightB_of hA hS, hae, wl, hpl, wc, wk, kr⟩
        refine .inl ⟨_, rfl, r, ⟨⟨n1000, by dsimp only; omega, e0, by dsimp only; omega, e0, by dsimp only; omega, e0, e0, e0, (fun d h => by cases h), hA.few⟩, has0, has0, has64.2 (by dsimp only; omega), has0, has64.2 (by dsimp only; omega), has0, has64.2 (by dsimp only; omega), has64.2 (by dsimp only; omega), has64.2 (by dsimp only; omega)⟩, ?_, rfl⟩
        have hc := r.cut.2
        dsimp only at hc ⊢
        unfold headF
        rw [if_pos rfl]
        simp only [List.length_append, List.length_cons, be_length]
        omega
  · rw [hg]; exact .inr ⟨0, rfl⟩
  · rw [hg]
    refine .inr ⟨e, ?_⟩
    dsimp only
    rw [if_pos (.inr rfl)]
end Go.VP
set_option linter.unusedVariables false
set_option linter.unusedSimpArgs false
set_option maxRecDepth 100000
namespace Go.VP
open Go Go.VI
abbrev Ctx := S_api_Ctx
abbrev stp (c : Ctx) : S_ctx_stepper := ⟨c.prefix_c0, c.prefix_c1, c.prefix_c2, c.prefix_c3, c.next_c0, c.next_c1, c.id⟩
def famE (ae : Int) : Int := if ae = 1 then 0 else if ae = 2 then 1 else if ae = 3 then 1 else -1
theorem cfam_is (ae : Int) : g_ctx_Family (ae, ()) = some ((famE ae, ()), ()) := by
  rw [g_ctx_Family_eq]; unfold famE
  by_cases h1 : ae = 1
  · rw [if_pos (by simp [h1]), if_pos h1]
  rw [if_neg (by simp [h1]), if_neg h1]
  by_cases h2 : ae = 2
  · rw [if_pos (by simp [h2]), if_pos (by simp [h2]), if_pos h2]
  rw [if_neg (by simp [h2]), if_neg h2]
  by_cases h3 : ae = 3
  · rw [if_pos (by simp [h3]), if_pos h3]
  · rw [if_neg (by simp [h3]), if_neg h3]
theorem rcfam_is (ae : Int) : g_ref22_Family (ae, ()) = some ((famE ae, ()), ()) := by
  rw [g_ref22_Family_eq]; unfold famE
  by_cases h1 : ae = 1
  · rw [if_pos (by simp [h1]), if_pos h1]
  rw [if_neg (by simp [h1]), if_neg h1]
  by_cases h2 : ae = 2
  · rw [if_pos (by simp [h2]), if_pos h2]
  rw [if_neg (by simp [h2]), if_neg h2]
  by_cases h3 : ae = 3
  · rw [if_pos (by simp [h3]), if_pos h3]
  · rw [if_neg (by simp [h3]), if_neg h3]
theorem famE_rng {ae : Int} (h : 1 ≤ ae ∧ ae ≤ 3) : 0 ≤ famE ae ∧ famE ae < 2 := by
  unfold famE; split
  · omega
  split
  · omega
  split <;> omega
theorem getS_known {s : Bs} (h : (getS s).2.1 = true) : (getS s).2.2 = 0 := by
  unfold getS at h ⊢
  split at h
  · rename_i l e
    unfold endS at h ⊢
    split at h
    · cases h
    · rename_i h0; rw [if_neg h0]
  · cases h
def countF (d : Bs) (n : Int) : Bool × Int := if (d.length : Int) < n then (false, 2) else ((getS (d.drop n.toNat)).2.1, (getS (d.drop n.toNat)).2.2)
theorem countF_known {d : Bs} {n : Int} (h : (countF d n).1 = true) : (countF d n).2 = 0 ∧ n ≤ d.length := by
  unfold countF at h ⊢
  split at h
  · cases h
  · rename_i h0; rw [if_neg h0]; exact ⟨getS_known h, by omega⟩
theorem counts_is {d : Bs} {n : Int} (hd : d.length ≤ 100000) (hn : 0 ≤ n) : g_ctx_counts (d, n, ()) = some (((countF d n).1, (countF d n).2, ()), ()) := by
  rw [g_ctx_counts_eq]; unfold countF
  by_cases h : (d.length : Int) < n
  · rw [ifd h, if_pos h]
  · rw [ifn h, if_neg h, if_pos (by omega), sget_is (by simp; omega), Option.bind_some]
theorem rfixed_is {d : Bs} {n : Int} (hd : d.length ≤ 100000) (hn : 0 ≤ n) : g_ref22_fixed (d, n, ()) = some (((countF d n).1, (countF d n).2, ()), ()) := by
  rw [g_ref22_fixed_eq]; unfold countF
  by_cases h : (d.length : Int) < n
  · rw [ifd h, if_pos h]
  · rw [ifn h, if_neg h, if_pos (by omega), rsget_is (by simp; omega), Option.bind_some]
def setId (c : Ctx) (i : Bs) : Ctx := ⟨c.prefix_c0, c.prefix_c1, c.prefix_c2, c.prefix_c3, c.next_c0, c.next_c1, i⟩
def setN (c : Ctx) (k : Int) (a : Bs) : Ctx := ⟨c.prefix_c0, c.prefix_c1, c.prefix_c2, c.prefix_c3, (if k = 0 then a else c.next_c0), (if k = 1 then a else c.next_c1), c.id⟩
def idF (c : Ctx) (d : Bs) : Ctx × Int := if (countF d 10).1 = true then (setId c (cut_ d 2 8), 0) else (c, (countF d 10).2)
theorem id_is {c : Ctx} {d : Bs} (hd : d.length ≤ 100000) : g_ctx_stepper_id (stp c, d, ()) = some (((idF c d).2, ()), (stp (idF c d).1, ())) := by
  rw [g_ctx_stepper_id_eq, counts_is hd (by omega), Option.bind_some]
  unfold idF
  dsimp only
  cases h : (countF d 10).1 with
  | false => rw [iff_, if_neg (by simp)]
  | true =>
    have hk := countF_known h
    rw [ift, if_pos (by omega), if_pos rfl, hk.1]; rfl
def hopN (ae : Int) : Int := if ae = 0 then (0 : Int) else (if ae = 1 then (4 : Int) else (if ae = 2 then (16 : Int) else (8 : Int)))
theorem hopN_rng (ae : Int) : 0 ≤ hopN ae ∧ hopN ae ≤ 16 := by
  unfold hopN; split
  · omega
  split
  · omega
  split <;> omega
def hopA (d : Bs) : Bs := if bt d 0 = 3 then (longF (cut_ d 2 (hopN (bt d 0)))).1 else cut_ d 2 (hopN (bt d 0))
def hopF (c : Ctx) (d : Bs) : Ctx × Int :=
  if (d.length : Int) < 2 then (c, 2) else if bt d 0 < 1 ∨ 3 < bt d 0 then (c, 0)
  else if (countF d (2 + hopN (bt d 0))).1 = true then (setN c (famE (bt d 0)) (hopA d), 0)
  else (c, (countF d (2 + hopN (bt d 0))).2)
theorem hop_is {c : Ctx} {d : Bs} (hd : d.length ≤ 100000) : g_ctx_stepper_hop (stp c, d, ()) = some (((hopF c d).2, ()), (stp (hopF c d).1, ())) := by
  rw [g_ctx_stepper_hop_eq]
  unfold hopF
  by_cases h2 : (d.length : Int) < 2
  · rw [ifd h2, if_pos h2]
  rw [ifn h2, if_neg h2, get_bt (i := 0) (by omega), Option.bind_some, w64n]
  have e0 : bt d 0 = (((d[0]?.getD 0).toNat : Nat) : Int) := rfl
  rw [← e0]
  unfold hopA
  generalize bt d 0 = v
  by_cases h0 : v < 1
  · rw [ifd h0, if_pos (.inl h0)]
  rw [ifn h0]
  by_cases h3 : 3 < v
  · rw [ifd h3, if_pos (.inr h3)]
  have hr := hopN_rng v
  have hh : (if v = 0 then (0 : Int) else (if v = 1 then (4 : Int) else (if v = 2 then (16 : Int) else (8 : Int)))) = hopN v := rfl
  rw [hh, ifn h3, if_neg (show ¬ (v < 1 ∨ 3 < v) by omega), if_pos (show 0 ≤ v ∧ v < 4 by omega), w64 (x := 2 + hopN v) (by omega) (by omega), counts_is hd (by omega), Option.bind_some]
  dsimp only
  cases h : (countF d (2 + hopN v)).1 with
  | false => rw [ifnf, if_neg (by simp)]
  | true =>
    have hk := countF_known h
    have hf := famE_rng (ae := v) (by omega)
    have hc : (List.take (2 + hopN v).toNat d).drop 2 = cut_ d 2 (hopN v) := rfl
    rw [ifnt, if_pos (show 0 ≤ (2 : Int) ∧ (2 : Int) ≤ 2 + hopN v ∧ 2 + hopN v ≤ (d.length : Int) by omega), if_pos rfl, hc]
    refine bq_step (fun hv => ?_) (fun hv => ?_)
    · rw [long_is, Option.bind_some, cfam_is, Option.bind_some]
      dsimp only
      rw [if_pos hf, if_pos hv]; rfl
    · rw [cfam_is, Option.bind_some]
      dsimp only
      rw [if_pos hf, if_neg hv]; rfl
theorem rlong20 {v : Int} (h : 0 ≤ v ∧ v ≤ 3) : g_ref20_Long (v, ()) = some ((hopN v, ()), ()) := by
  rw [g_ref20_Long_eq, if_pos h.1]
  have : v = 0 ∨ v = 1 ∨ v = 2 ∨ v = 3 := by omega
  rcases this with rfl | rfl | rfl | rfl <;> rfl
theorem rhop_is {c : Ctx} {d : Bs} (hd : d.length ≤ 100000) : g_ref22_hop (c, d, ()) = some (((hopF c d).1, (hopF c d).2, ()), ()) := by
  rw [g_ref22_hop_eq]
  unfold hopF
  by_cases h2 : (d.length : Int) < 2
  · rw [ifd h2, if_pos h2]
  rw [ifn h2, if_neg h2, get_bt (i := 0) (by omega), Option.bind_some, w64n]
  have e0 : bt d 0 = (((d[0]?.getD 0).toNat : Nat) : Int) := rfl
  have hb := bt_rng d 0
  rw [← e0]
  unfold hopA
  generalize bt d 0 = v at *
  refine bq_step (fun h0 => ?_) (fun h0 => ?_)
  · rw [if_pos (show v < 1 ∨ 3 < v by omega)]
  by_cases h3 : 3 < v
  · rw [ifd h3, if_pos (.inr h3)]
  have hr := hopN_rng v
  rw [ifn h3, if_neg (show ¬ (v < 1 ∨ 3 < v) by omega), rlong20 (by omega), Option.bind_some]
  dsimp only
  rw [w64 (x := 2 + hopN v) (by omega) (by omega), rfixed_is hd (by omega), Option.bind_some]
  dsimp only
  cases h : (countF d (2 + hopN v)).1 with
  | false => rw [ifnf, ite_self, if_neg (by simp)]
  | true =>
    have hk := countF_known h
    have hf := famE_rng (ae := v) (by omega)
    have hc : (List.take (2 + hopN v).toNat d).drop 2 = cut_ d 2 (hopN v) := rfl
    rw [hk.1, if_neg (by decide), ifnt, if_pos (show 0 ≤ (2 : Int) ∧ (2 : Int) ≤ 2 + hopN v ∧ 2 + hopN v ≤ (d.length : Int) by omega), if_pos rfl, hc]
    refine bq_step (fun hv => ?_) (fun hv => ?_)
    · rw [rlong_is, Option.bind_some, rcfam_is, Option.bind_some]
      dsimp only
      rw [if_pos hf, if_pos hv]; rfl
    · rw [rcfam_is, Option.bind_some]
      dsimp only
      rw [if_pos hf, if_neg hv]; rfl
end Go.VP
set_option linter.unusedVariables false
set_option linter.unusedSimpArgs false
set_option maxRecDepth 100000
namespace Go.VP
open Go Go.VI
theorem dq_step' {R : Type} {p : Prop} [Decidable p] {t f r : R} (h : p → t = r) (h' : ¬ p → f = r) : (if decide p = true then t else f) = r := by
  by_cases hp : p
  · rw [ifd hp]; exact h hp
  · rw [ifn hp]; exact h' hp
theorem be_step {R : Type} {x y : Bs} {f t r : R} (heq : x = y → t = r) (hne : x ≠ y → f = r) : (if (x == y) = true then t else f) = r := by
  by_cases h : x = y
  · rw [if_pos (by simp [h])]; exact heq h
  · rw [if_neg (by simpa using h)]; exact hne h
def okC (c : Ctx) : Prop := c.prefix_c0 = [] ∧ (c.prefix_c1 = [] ∨ c.prefix_c1.length = 4) ∧ (c.prefix_c2 = [] ∨ c.prefix_c2.length = 16) ∧ (c.prefix_c3 = [] ∨ linkB c.prefix_c3 = true) ∧ (c.next_c0 = [] ∨ c.next_c0.length = 4) ∧ (c.next_c1 = [] ∨ c.next_c1.length = 16) ∧ (c.id = [] ∨ c.id.length = 8)
structure RawOk (r : Raw) : Prop where
  ae : 0 ≤ r.ae ∧ r.ae < 4
  om : 0 ≤ r.omitted
  plen : 0 ≤ r.plen ∧ r.plen ≤ 128
  len : r.omitted + r.bytes.length ≤ szA r.ae - baseA r.ae
  flags : 0 ≤ r.flags ∧ r.flags ≤ 255
  metric : 0 ≤ r.metric ∧ r.metric ≤ 65535
  have_ : r.have_ = 0 ∨ r.have_ = 1
  low : lowA r.ae ≤ r.plen
def preC (c : Ctx) (ae : Int) : Bs := if ae = 0 then c.prefix_c0 else (if ae = 1 then c.prefix_c1 else (if ae = 2 then c.prefix_c2 else c.prefix_c3))
theorem preC_len {c : Ctx} (h : okC c) {ae : Int} (ha : 0 ≤ ae ∧ ae < 4) (hn : preC c ae ≠ []) : ((preC c ae).length : Int) = szA ae := by
  obtain ⟨h0, h1, h2, h3, _⟩ := h
  rcases ae_cases ha with rfl | rfl | rfl | rfl
  · exact absurd h0 hn
  · rcases h1 with e | e
    · exact absurd e hn
    · show (c.prefix_c1.length : Int) = 4; omega
  · rcases h2 with e | e
    · exact absurd e hn
    · show (c.prefix_c2.length : Int) = 16; omega
  · rcases h3 with e | e
    · exact absurd e hn
    · have := (linkB_len e).1; show (c.prefix_c3.length : Int) = 16; omega
def addrF (c : Ctx) (r : Raw) : Bs × Bool :=
  if r.omitted = 0 then (wholeF r.ae r.bytes r.plen, true)
  else if preC c r.ae = [] then ([], false)
  else (wholeF r.ae (cut_ (preC c r.ae) (baseA r.ae) r.omitted ++ r.bytes) r.plen, true)
theorem address_is {c : Ctx} {r : Raw} (hc : okC c) (hr : RawOk r) : g_ctx_stepper_address (stp c, r, ()) = some (((addrF c r).1, (addrF c r).2, ()), (stp c, ())) := by
  have ha := hr.ae; have hl := hr.len; have ho := hr.om; have hp := hr.plen
  have hsz : 0 ≤ szA r.ae ∧ szA r.ae ≤ 16 := by unfold szA; split <;> (try split) <;> (try split) <;> omega
  have hbs := baseA_rng r.ae
  have hpre : (if r.ae = 0 then c.prefix_c0 else (if r.ae = 1 then c.prefix_c1 else (if r.ae = 2 then c.prefix_c2 else c.prefix_c3))) = preC c r.ae := rfl
  have hsz' : (if r.ae = 0 then (0 : Int) else (if r.ae = 1 then (4 : Int) else (if r.ae = 2 then (16 : Int) else (16 : Int)))) = szA r.ae := rfl
  rw [g_ctx_stepper_address_eq]
  dsimp only
  rw [hpre, hsz', if_pos ha]
  unfold addrF
  refine bq_step (fun h3 => ?_) (fun h3 => ?_)
  · have s3 : szA r.ae = 16 := by rw [h3]; rfl
    have b3 : baseA r.ae = 8 := by rw [h3]; rfl
    rw [if_pos ha, s3, w64 (x := 16 - 8) (by omega) (by omega), show (16 : Int) - 8 = 8 by decide]
    refine bq_step (fun h0 => ?_) (fun h0 => ?_)
    · rw [if_pos h0, if_pos (maxB_of (by omega)), List.nil_append, fill_is (by omega), Option.bind_some, long_is, Option.bind_some]
      have hl8 : longF (fillF r.bytes 8) = (linkP ++ fillF r.bytes 8, true) := by unfold longF; rw [if_pos (by rw [fillF_length]; omega)]
      rw [hl8, keep_is (by simp [fillF_length, linkP]; omega) (has64.2 (by omega)), Option.bind_some]
      unfold wholeF; rw [if_pos h3]
    · rw [if_neg h0]
      refine be_step (fun he => ?_) (fun he => ?_)
      · rw [if_pos he]
      · have hpl := preC_len hc ha he
        have hcl : ((cut_ (preC c r.ae) 8 r.omitted).length : Int) = r.omitted := cut_length (by omega) ho (by omega)
        have hcut : (List.take (8 + r.omitted).toNat (preC c r.ae)).drop 8 = cut_ (preC c r.ae) 8 r.omitted := rfl
        rw [if_neg he, w64 (x := 8 + r.omitted) (by omega) (by omega), if_pos (by omega), hcut, if_pos (maxB_of (by omega)), fill_is (by omega), Option.bind_some, long_is, Option.bind_some]
        have hl8 : longF (fillF (cut_ (preC c r.ae) 8 r.omitted ++ r.bytes) 8) = (linkP ++ fillF (cut_ (preC c r.ae) 8 r.omitted ++ r.bytes) 8, true) := by unfold longF; rw [if_pos (by rw [fillF_length, List.length_append]; omega)]
        rw [hl8, keep_is (by simp [fillF_length, linkP]; omega) (has64.2 (by omega)), Option.bind_some]
        unfold wholeF; rw [if_pos h3, b3]
  · have b0 : baseA r.ae = 0 := by
      rcases ae_cases ha with h | h | h | h
      · rw [h]; rfl
      · rw [h]; rfl
      · rw [h]; rfl
      · exact absurd h h3
    rw [if_pos ha, w64 (x := szA r.ae - 0) (by omega) (by omega), show szA r.ae - 0 = szA r.ae by omega]
    refine bq_step (fun h0 => ?_) (fun h0 => ?_)
    · rw [if_pos h0, if_pos (maxB_of (by omega)), List.nil_append, fill_is (by omega), Option.bind_some, keep_is (by rw [fillF_length]; omega) (has64.2 (by omega)), Option.bind_some]
      unfold wholeF; rw [if_neg h3]
    · rw [if_neg h0]
      refine be_step (fun he => ?_) (fun he => ?_)
      · rw [if_pos he]
      · have hpl := preC_len hc ha he
        have hcl : ((cut_ (preC c r.ae) 0 r.omitted).length : Int) = r.omitted := cut_length (by omega) ho (by omega)
        have hcut : (List.take (0 + r.omitted).toNat (preC c r.ae)).drop 0 = cut_ (preC c r.ae) 0 r.omitted := rfl
        rw [if_neg he, w64 (x := 0 + r.omitted) (by omega) (by omega), if_pos (by omega), hcut, if_pos (maxB_of (by omega)), fill_is (by omega), Option.bind_some, keep_is (by rw [fillF_length, List.length_append]; omega) (has64.2 (by omega)), Option.bind_some]
        unfold wholeF; rw [if_neg h3, b0]
def flagsF (c : Ctx) (r : Raw) (a : Bs) : Ctx :=
  if r.ae = 0 then c else
    let i := if r.flags / 64 % 2 = 1 then (z4' ++ a).drop (a.length - 4) else c.id
    if 128 ≤ r.flags then ⟨(if r.ae = 0 then a else c.prefix_c0), (if r.ae = 1 then a else c.prefix_c1), (if r.ae = 2 then a else c.prefix_c2), (if r.ae = 3 then a else c.prefix_c3), c.next_c0, c.next_c1, i⟩ else setId c i
  where z4' : Bs := [0, 0, 0, 0]
theorem flag_bits : ∀ f : Fin 256, ((ibits .and .i64 (f.val : Int) 128 != 0) = decide (128 ≤ f.val)) ∧ ((ibits .and .i64 (f.val : Int) 64 != 0) = decide (f.val / 64 % 2 = 1)) := by decide +kernel
def toldB (c : Ctx) (r : Raw) : Bool := decide (r.have_ = 1) && (decide (r.metric = 65535) || (decide (0 < r.ae) && !(c.id == [])))
theorem told_is {c : Ctx} {r : Raw} : g_ctx_stepper_told (stp c, r, ()) = some ((toldB c r, ()), (stp c, ())) := by
  rw [g_ctx_stepper_told_eq]; unfold toldB
  refine bq_step (fun h => ?_) (fun h => ?_)
  · refine bq_step (fun h1 => ?_) (fun h1 => ?_)
    · simp [h, h1]
    · refine dq_step' (fun h2 => ?_) (fun h2 => ?_)
      · simp [h, h1, h2]
      · simp [h1, h2]
  · simp [h]
end Go.VP
set_option linter.unusedVariables false
set_option linter.unusedSimpArgs false
set_option maxRecDepth 100000
namespace Go.VP
open Go Go.VI
theorem czeros4 : g_octet_Zeros (4, ()) = some (((([0, 0, 0, 0] : Bs)), ()), ()) := by
  rw [g_octet_Zeros_eq, if_pos (by unfold roomI; decide)]; rfl
theorem flags_is {c : Ctx} {r : Raw} {a : Bs} (hr : RawOk r) (ha : r.ae ≠ 0 → 4 ≤ a.length) (hb : a.length ≤ 100000) : g_ctx_stepper_flags (stp c, r, a, ()) = some ((), (stp (flagsF c r a), ())) := by
  have hae := hr.ae
  obtain ⟨f, hf⟩ : ∃ f : Fin 256, r.flags = (f.val : Int) := ⟨⟨r.flags.toNat, by have := hr.flags; omega⟩, by have := hr.flags; simp; omega⟩
  obtain ⟨f1, f2⟩ := flag_bits f
  rw [g_ctx_stepper_flags_eq]
  unfold flagsF
  refine bq_step (fun h => ?_) (fun h => ?_)
  · rw [if_pos h]
  have h4 := ha h
  rw [if_neg h, if_neg h, hf, f1, f2, if_pos hae, czeros4, Option.bind_some]
  dsimp only
  have hl : ((([0, 0, 0, 0] : Bs) ++ a).length : Int) - 8 = ((a.length - 4 : Nat) : Int) := by simp; omega
  rw [if_pos (maxB_of (by simp; omega)), hl, w64 (by omega) (by omega), if_pos (show 0 ≤ ((a.length - 4 : Nat) : Int) ∧ ((a.length - 4 : Nat) : Int) ≤ ((([0, 0, 0, 0] : Bs) ++ a).length : Int) by simp; omega), Int.toNat_natCast]
  have e1 : (128 ≤ (f.val : Int)) ↔ 128 ≤ f.val := by omega
  have e2 : ((f.val : Int) / 64 % 2 = 1) ↔ f.val / 64 % 2 = 1 := by omega
  refine dq_step' (fun g => ?_) (fun g => ?_)
  · refine dq_step' (fun k => ?_) (fun k => ?_)
    · rw [if_pos (e2.2 k), if_pos (e1.2 g)]; rfl
    · rw [if_neg (fun x => k (e2.1 x)), if_pos (e1.2 g)]
  · refine dq_step' (fun k => ?_) (fun k => ?_)
    · rw [Option.bind_some]
      dsimp only
      rw [if_pos (maxB_of (by simp; omega)), hl, w64 (by omega) (by omega), if_pos (show 0 ≤ ((a.length - 4 : Nat) : Int) ∧ ((a.length - 4 : Nat) : Int) ≤ ((([0, 0, 0, 0] : Bs) ++ a).length : Int) by simp; omega), Int.toNat_natCast, if_pos (e2.2 k), if_neg (fun x => g (e1.1 x))]; rfl
    · rw [if_neg (fun x => k (e2.1 x)), if_neg (fun x => g (e1.1 x))]; rfl
theorem takeG_raw {d : Bs} (h : (takeG d).2.1 = true) : RawOk (takeG d).1 ∧ (takeG d).2.2 = 0 := by
  have b0 := bt_rng d 0
  have b1 := bt_rng d 1
  have b2 := bt_rng d 2
  have b3 := bt_rng d 3
  unfold takeG at h ⊢
  split at h
  · cases h
  rename_i h1
  split at h
  · cases h
  rename_i h2
  rw [if_neg h1, if_neg h2]
  dsimp only at h ⊢
  split at h
  · cases h
  rename_i h3
  split at h
  · cases h
  rename_i h4
  rw [if_neg h3, if_neg h4]
  have h3 : (preF d 10 (bt d 0) (bt d 2) (bt d 3)).2 = 0 := by simpa using h3
  have n8 := num_rng (cut_ d 8 2)
  have l8 : ((cut_ d 8 2).length : Int) = 2 := cut_length (by omega) (by omega) (by omega)
  have l8' : (cut_ d 8 2).length = 2 := by omega
  rw [l8'] at n8
  unfold preF at h3 ⊢
  split at h3
  · cases h3
  rename_i hg
  split at h3
  · cases h3
  rename_i hl
  rw [if_neg hg, if_neg hl]
  have hg1 : greatB (bt d 0) (bt d 2) = false := by
    cases e : greatB (bt d 0) (bt d 2) with
    | false => rfl
    | true => exact absurd (.inl e) hg
  have hg2 : 0 ≤ restN (bt d 0) (bt d 2) (bt d 3) := by omega
  obtain ⟨q1, q2, q3, q4, q5⟩ := restN_len (ae := bt d 0) (by omega) hg1
  have hcl := cut_length (s := d) (p := 10) (n := restN (bt d 0) (bt d 2) (bt d 3)) (by omega) hg2 (by omega)
  have hp : lowA (bt d 0) ≤ bt d 2 ∧ bt d 2 ≤ highA (bt d 0) := by unfold greatB at hg1; simpa using hg1
  obtain ⟨r1, r2, r3, r4, r5, r6⟩ := least_base (ae := bt d 0) (by omega) hp
  refine ⟨⟨by show 0 ≤ bt d 0 ∧ bt d 0 < 4; omega, b3.1, q5, ?_, by show 0 ≤ bt d 1 ∧ bt d 1 ≤ 255; omega, by show 0 ≤ num (cut_ d 8 2) ∧ num (cut_ d 8 2) ≤ 65535; omega, ?_, hp.1⟩, rfl⟩
  · show bt d 3 + ((cut_ d 10 (restN (bt d 0) (bt d 2) (bt d 3))).length : Int) ≤ szA (bt d 0) - baseA (bt d 0)
    rw [hcl]
    unfold restN
    omega
  · show (if _ = true then (1 : Int) else 0) = 0 ∨ (if _ = true then (1 : Int) else 0) = 1
    split
    · exact .inr rfl
    · exact .inl rfl
def updM (c : Ctx) (r : Raw) (a : Bs) : Msg := ⟨11, 0, 0, [], 0, r.ae, a, r.plen, 0, (if r.metric = 65535 then [] else (if famE r.ae = 0 then c.next_c0 else c.next_c1)), r.metric, (if r.metric = 65535 then [] else c.id), r.seq, 0, r.interval, 0, 0, 0, 0, [], [], [], 0, [], r.subs⟩
def updF (c : Ctx) (d : Bs) : Ctx × List Msg × Int :=
  if (takeG d).2.1 = true then
    (if (addrF c (takeG d).1).2 = true then
      (if toldB (flagsF c (takeG d).1 (addrF c (takeG d).1).1) (takeG d).1 = true then (flagsF c (takeG d).1 (addrF c (takeG d).1).1, [updM (flagsF c (takeG d).1 (addrF c (takeG d).1).1) (takeG d).1 (addrF c (takeG d).1).1], 0)
      else (flagsF c (takeG d).1 (addrF c (takeG d).1).1, [], 0))
    else (c, [], 9))
  else (c, [], (takeG d).2.2)
theorem addrF_len {c : Ctx} {r : Raw} (hc : okC c) (hr : RawOk r) (h : (addrF c r).2 = true) : ((addrF c r).1.length : Int) = szA r.ae := by
  have hl := hr.len
  have ho := hr.om
  have hbs := baseA_rng r.ae
  unfold addrF at h ⊢
  by_cases h0 : r.omitted = 0
  · rw [if_pos h0]; exact wholeF_len hr.ae (by omega)
  · rw [if_neg h0] at h ⊢
    by_cases he : preC c r.ae = []
    · rw [if_pos he] at h; cases h
    · rw [if_neg he]
      have hpl := preC_len hc hr.ae he
      have hcl : ((cut_ (preC c r.ae) (baseA r.ae) r.omitted).length : Int) = r.omitted := cut_length (by omega) ho (by omega)
      exact wholeF_len hr.ae (by rw [List.length_append]; omega)
theorem update_is {c : Ctx} {ty at_ : Int} {d : Bs} (hc : okC c) (hd : d.length ≤ 1000) : g_ctx_stepper_update (stp c, ⟨ty, at_, d⟩, ()) = some (((updF c d).2.1, (updF c d).2.2, ()), (stp (updF c d).1, ())) := by
  rw [g_ctx_stepper_update_eq, take_is hd, Option.bind_some]
  unfold updF
  dsimp only [trip]
  cases h : (takeG d).2.1 with
  | false => rw [ifnf, if_neg (by simp)]
  | true =>
    obtain ⟨hr, h0⟩ := takeG_raw h
    generalize (takeG d).1 = r at *
    rw [ifnt, if_pos rfl, address_is hc hr, Option.bind_some]
    dsimp only
    cases h2 : (addrF c r).2 with
    | false => rw [ifnf, if_neg (by simp)]
    | true =>
      have hl := addrF_len hc hr h2
      have hsz : (r.ae ≠ 0 → 4 ≤ szA r.ae) ∧ szA r.ae ≤ 16 := by unfold szA; refine ⟨fun h => ?_, ?_⟩ <;> (split <;> (try split) <;> (try split) <;> omega)
      generalize (addrF c r).1 = a at *
      rw [ifnt, if_pos rfl, flags_is hr (fun h => by have := hsz.1 h; omega) (by omega), Option.bind_some]
      dsimp only
      rw [told_is, Option.bind_some]
      dsimp only
      cases h3 : toldB (flagsF c r a) r with
      | false => rw [ifnf, if_neg (by simp)]
      | true =>
        rw [ifnt, if_pos rfl]
        unfold updM
        refine ne_step (fun hm => ?_) (fun hm => ?_)
        · rw [if_neg hm, if_neg hm, cfam_is, Option.bind_some]
          dsimp only
          have hae : 1 ≤ r.ae ∧ r.ae ≤ 3 := by
            have := hr.ae
            unfold toldB at h3
            simp [hm] at h3
            omega
          rw [if_pos (famE_rng hae)]
        · rw [if_pos hm, if_pos hm]
end Go.VP
set_option linter.unusedVariables false
set_option linter.unusedSimpArgs false
set_option maxRecDepth 100000
namespace Go.VP
open Go Go.VI
theorem rtold_tail {c : Ctx} {r : Raw} {a : Bs} (hr : RawOk r) : ((g_ref22_told (c, r, a, ())).bind fun r4 => (if (!r4.1.2.1) = true then (some ((c, [], 0, ()), ()) : Option ((Ctx × List Msg × Int × Unit) × Unit)) else some ((c, [r4.1.1], 0, ()), ()))) = some ((c, (if toldB c r = true then [updM c r a] else []), 0, ()), ()) := by
  have hae := hr.ae
  have hh := hr.have_
  rw [g_ref22_told_eq]
  unfold toldB updM
  by_cases h0 : r.have_ = 0
  · rw [if_pos (by simp [h0]), Option.bind_some]
    dsimp only
    rw [ifnf, if_neg (by simp [h0])]
  have h1 : r.have_ = 1 := by omega
  rw [if_neg (by simp [h0])]
  by_cases hm : r.metric = 65535
  · rw [if_pos (by simp [hm]), Option.bind_some]
    dsimp only
    rw [ifnt, if_pos (by simp [h1, hm]), if_pos hm, if_pos hm]
  rw [if_neg (by simp [hm])]
  by_cases ha : r.ae = 0
  · rw [if_pos (by simp [ha]), Option.bind_some]
    dsimp only
    rw [ifnf, if_neg (by simp [hm, ha])]
  rw [if_neg (by simp [ha])]
  by_cases hi : c.id = []
  · rw [if_pos (by simp [hi]), Option.bind_some]
    dsimp only
    rw [ifnf, if_neg (by simp [hm, hi])]
  rw [if_neg (by simpa using hi), rcfam_is, Option.bind_some]
  dsimp only
  have hpos : 0 < r.ae := by omega
  rw [if_pos (famE_rng (ae := r.ae) (by omega)), Option.bind_some]
  dsimp only
  have hb : (decide (r.have_ = 1) && (decide (r.metric = 65535) || decide (0 < r.ae) && !(c.id == []))) = true := by simp [h1, hpos, hi]
  rw [ifnt, hb, ift, if_neg hm, if_neg hm]
theorem updF_eq {c : Ctx} {d : Bs} (h : (takeG d).2.1 = true) (h2 : (addrF c (takeG d).1).2 = true) : updF c d = (flagsF c (takeG d).1 (addrF c (takeG d).1).1, (if toldB (flagsF c (takeG d).1 (addrF c (takeG d).1).1) (takeG d).1 = true then [updM (flagsF c (takeG d).1 (addrF c (takeG d).1).1) (takeG d).1 (addrF c (takeG d).1).1] else []), 0) := by
  unfold updF
  rw [if_pos h, if_pos h2]
  split <;> rfl
theorem rupdate_is {c : Ctx} {ty at_ : Int} {d : Bs} (hc : okC c) (hd : d.length ≤ 1000) : g_ref22_update (c, ⟨ty, at_, d⟩, ()) = some (((updF c d).1, (updF c d).2.1, (updF c d).2.2, ()), ()) := by
  rw [g_ref22_update_eq, rtake_is hd, Option.bind_some]
  dsimp only [trip]
  cases h : (takeG d).2.1 with
  | false =>
    have : updF c d = (c, [], (takeG d).2.2) := by unfold updF; rw [if_neg (by rw [h]; simp)]
    rw [ifnf, ite_self, this]
  | true =>
    obtain ⟨hr, h0⟩ := takeG_raw h
    refine ne_step (fun e => absurd h0 e) (fun _ => ?_)
    rw [ifnt]
    have hu := @updF_eq c d h
    have hn : (addrF c (takeG d).1).2 = false → updF c d = (c, [], 9) := fun e => by unfold updF; rw [if_pos h, if_neg (by rw [e]; simp)]
    have hal := @addrF_len c (takeG d).1 hc hr
    generalize updF c d = V at *
    generalize (takeG d).1 = r at *
    have hae := hr.ae; have hl := hr.len; have ho := hr.om; have hp := hr.plen
    have hsz : (r.ae ≠ 0 → 4 ≤ szA r.ae) ∧ szA r.ae ≤ 16 := by unfold szA; refine ⟨fun h => ?_, ?_⟩ <;> (split <;> (try split) <;> (try split) <;> omega)
    have hbs := baseA_rng r.ae
    have hpre : (if r.ae = 0 then c.prefix_c0 else (if r.ae = 1 then c.prefix_c1 else (if r.ae = 2 then c.prefix_c2 else c.prefix_c3))) = preC c r.ae := rfl
    rw [hpre]
    by_cases hom : r.omitted = 0
    · have e : addrF c r = (wholeF r.ae r.bytes r.plen, true) := by unfold addrF; rw [if_pos hom]
      have hu := hu (by rw [e])
      have hal := hal (by rw [e])
      rw [e] at hu hal
      dsimp only at hu hal
      rw [ifn (by omega), if_pos (maxB_of (by omega)), List.nil_append]
      rw [rwhole_is hae (by omega) (fun h => by rw [h] at hl; have : szA 0 - baseA 0 = 0 := rfl; exact List.eq_nil_of_length_eq_zero (by omega)) (fun h => by rw [h] at hl; have : szA 3 - baseA 3 = 8 := rfl; omega), Option.bind_some]
      generalize wholeF r.ae r.bytes r.plen = a at *
      dsimp only
      rw [hu]
      have ha4 : r.ae ≠ 0 → 4 ≤ a.length := fun h => by have := hsz.1 h; omega
      have hfl := hr.flags
      have e64 : (IntKind.wrap .i64 (r.flags.tdiv 64)).tmod 2 = r.flags / 64 % 2 := by
        rw [Int.tdiv_eq_ediv_of_nonneg hfl.1, w64 (by omega) (by omega), Int.tmod_eq_emod_of_nonneg (by omega)]
      rw [e64]
      by_cases a0 : r.ae = 0
      · have ef : flagsF c r a = c := by unfold flagsF; rw [if_pos a0]
        have an : ¬ (r.ae != 0) = true := by simp [a0]
        rw [if_neg an, if_neg an, rtold_tail hr, ef]
      have h4 := ha4 a0
      have ap : (r.ae != 0) = true := by simp [a0]
      have al16 : r.ae ≠ 1 → (a.length : Int) = 16 := fun h1 => by
        rcases ae_cases hae with h | h | h | h
        · exact absurd h a0
        · exact absurd h h1
        · rw [hal, h]; rfl
        · rw [hal, h]; rfl
      have al4 : r.ae = 1 → (a.length : Int) = 4 := fun h1 => by rw [hal, h1]; rfl
      have w1 : r.ae = 1 → IntKind.wrap .i64 (((([0, 0, 0, 0] : Bs) ++ a).length : Int) - 8) = 0 := fun h1 => by
        have := al4 h1
        have hl0 : ((([0, 0, 0, 0] : Bs) ++ a).length : Int) - 8 = 0 := by rw [List.length_append]; simp; omega
        rw [hl0]; rfl
      have w2 : r.ae ≠ 1 → IntKind.wrap .i64 ((a.length : Int) - 8) = 8 := fun h1 => by rw [al16 h1]; rfl
      have id1 : r.ae = 1 → (flagsF.z4' ++ a).drop (a.length - 4) = ([0, 0, 0, 0] : Bs) ++ a := fun h1 => by
        have := al4 h1
        rw [show a.length - 4 = 0 by omega]; rfl
      have id2 : r.ae ≠ 1 → (flagsF.z4' ++ a).drop (a.length - 4) = a.drop 8 := fun h1 => by
        have := al16 h1
        rw [show a.length - 4 = flagsF.z4'.length + 8 by show _ = 4 + 8; omega, List.drop_append, List.drop_eq_nil_of_le (by omega), List.nil_append, Nat.add_sub_cancel_left]
      have dz : ∀ x : Bs, x.drop (0 : Int).toNat = x := fun x => rfl
      have d8 : ∀ x : Bs, x.drop (8 : Int).toNat = x.drop 8 := fun x => rfl
      rw [if_pos ap]
      by_cases g : 128 ≤ r.flags
      · rw [ifd g, if_pos hae, if_pos ap]
        by_cases k : r.flags / 64 % 2 = 1
        · rw [if_pos (show (r.flags / 64 % 2 == 1) = true by simp [k])]
          by_cases a1 : r.ae = 1
          · have ef : flagsF c r a = ⟨(if r.ae = 0 then a else c.prefix_c0), (if r.ae = 1 then a else c.prefix_c1), (if r.ae = 2 then a else c.prefix_c2), (if r.ae = 3 then a else c.prefix_c3), c.next_c0, c.next_c1, ([0, 0, 0, 0] : Bs) ++ a⟩ := by
              unfold flagsF; rw [if_neg a0, if_pos k, if_pos g, id1 a1]
            rw [if_pos (show (r.ae == 1) = true by simp [a1]), if_pos (maxB_of (by omega)), w1 a1, if_pos (show 0 ≤ (0 : Int) ∧ (0 : Int) ≤ ((([0, 0, 0, 0] : Bs) ++ a).length : Int) by omega), dz, rtold_tail hr, ← ef]
          · have ef : flagsF c r a = ⟨(if r.ae = 0 then a else c.prefix_c0), (if r.ae = 1 then a else c.prefix_c1), (if r.ae = 2 then a else c.prefix_c2), (if r.ae = 3 then a else c.prefix_c3), c.next_c0, c.next_c1, a.drop 8⟩ := by
              unfold flagsF; rw [if_neg a0, if_pos k, if_pos g, id2 a1]
            have := al16 a1
            rw [if_neg (show ¬ (r.ae == 1) = true by simp [a1]), w2 a1, if_pos (show 0 ≤ (8 : Int) ∧ (8 : Int) ≤ (a.length : Int) by omega), d8, rtold_tail hr, ← ef]
        · have ef : flagsF c r a = ⟨(if r.ae = 0 then a else c.prefix_c0), (if r.ae = 1 then a else c.prefix_c1), (if r.ae = 2 then a else c.prefix_c2), (if r.ae = 3 then a else c.prefix_c3), c.next_c0, c.next_c1, c.id⟩ := by
            unfold flagsF; rw [if_neg a0, if_neg k, if_pos g]
          rw [if_neg (show ¬ (r.flags / 64 % 2 == 1) = true by simp [k]), rtold_tail hr, ← ef]
      · rw [ifn g, if_pos ap]
        by_cases k : r.flags / 64 % 2 = 1
        · rw [if_pos (show (r.flags / 64 % 2 == 1) = true by simp [k])]
          by_cases a1 : r.ae = 1
          · have ef : flagsF c r a = ⟨c.prefix_c0, c.prefix_c1, c.prefix_c2, c.prefix_c3, c.next_c0, c.next_c1, ([0, 0, 0, 0] : Bs) ++ a⟩ := by
              unfold flagsF; rw [if_neg a0, if_pos k, if_neg g, id1 a1]; rfl
            rw [if_pos (show (r.ae == 1) = true by simp [a1]), if_pos (maxB_of (by omega)), w1 a1, if_pos (show 0 ≤ (0 : Int) ∧ (0 : Int) ≤ ((([0, 0, 0, 0] : Bs) ++ a).length : Int) by omega), dz, rtold_tail hr, ← ef]
          · have ef : flagsF c r a = ⟨c.prefix_c0, c.prefix_c1, c.prefix_c2, c.prefix_c3, c.next_c0, c.next_c1, a.drop 8⟩ := by
              unfold flagsF; rw [if_neg a0, if_pos k, if_neg g, id2 a1]; rfl
            have := al16 a1
            rw [if_neg (show ¬ (r.ae == 1) = true by simp [a1]), w2 a1, if_pos (show 0 ≤ (8 : Int) ∧ (8 : Int) ≤ (a.length : Int) by omega), d8, rtold_tail hr, ← ef]
        · have ef : flagsF c r a = c := by
            unfold flagsF; rw [if_neg a0, if_neg k, if_neg g]; rfl
          rw [if_neg (show ¬ (r.flags / 64 % 2 == 1) = true by simp [k]), rtold_tail hr, ef]
    · rw [ifd (by omega), if_pos hae]
      refine be_step (fun he => ?_) (fun he => ?_)
      · rw [hn (by unfold addrF; rw [if_neg hom, if_pos he])]
      have hpl := preC_len hc hae he
      have hcl : ((cut_ (preC c r.ae) (baseA r.ae) r.omitted).length : Int) = r.omitted := cut_length (by omega) ho (by omega)
      have e : addrF c r = (wholeF r.ae (cut_ (preC c r.ae) (baseA r.ae) r.omitted ++ r.bytes) r.plen, true) := by unfold addrF; rw [if_neg hom, if_neg he]
      have hu := hu (by rw [e])
      have hal := hal (by rw [e])
      rw [e] at hu hal
      dsimp only at hu hal
      have hcut : ((preC c r.ae).drop (baseA r.ae).toNat).take r.omitted.toNat = cut_ (preC c r.ae) (baseA r.ae) r.omitted := by
        unfold cut_
        rw [List.drop_take, show (baseA r.ae + r.omitted).toNat - (baseA r.ae).toNat = r.omitted.toNat by omega]
      rw [rbase_is hae, Option.bind_some]
      dsimp only
      rw [if_pos (show 0 ≤ baseA r.ae ∧ baseA r.ae ≤ ((preC c r.ae).length : Int) by omega), if_pos (show 0 ≤ r.omitted ∧ r.omitted ≤ (((preC c r.ae).drop (baseA r.ae).toNat).length : Int) by rw [List.length_drop]; omega), hcut, if_pos (maxB_of (by omega))]
      rw [rwhole_is hae (by rw [List.length_append]; omega) (fun h => by rw [h] at hl; have : szA 0 - baseA 0 = 0 := rfl; omega) (fun h => by rw [h] at hl hcl; have : szA 3 - baseA 3 = 8 := rfl; rw [List.length_append]; rw [h]; omega), Option.bind_some]
      generalize wholeF r.ae (cut_ (preC c r.ae) (baseA r.ae) r.omitted ++ r.bytes) r.plen = a at *
      dsimp only
      rw [hu]
      have ha4 : r.ae ≠ 0 → 4 ≤ a.length := fun h => by have := hsz.1 h; omega
      have hfl := hr.flags
      have e64 : (IntKind.wrap .i64 (r.flags.tdiv 64)).tmod 2 = r.flags / 64 % 2 := by
        rw [Int.tdiv_eq_ediv_of_nonneg hfl.1, w64 (by omega) (by omega), Int.tmod_eq_emod_of_nonneg (by omega)]
      rw [e64]
      by_cases a0 : r.ae = 0
      · have ef : flagsF c r a = c := by unfold flagsF; rw [if_pos a0]
        have an : ¬ (r.ae != 0) = true := by simp [a0]
        rw [if_neg an, if_neg an, rtold_tail hr, ef]
      have h4 := ha4 a0
      have ap : (r.ae != 0) = true := by simp [a0]
      have al16 : r.ae ≠ 1 → (a.length : Int) = 16 := fun h1 => by
        rcases ae_cases hae with h | h | h | h
        · exact absurd h a0
        · exact absurd h h1
        · rw [hal, h]; rfl
        · rw [hal, h]; rfl
      have al4 : r.ae = 1 → (a.length : Int) = 4 := fun h1 => by rw [hal, h1]; rfl
      have w1 : r.ae = 1 → IntKind.wrap .i64 (((([0, 0, 0, 0] : Bs) ++ a).length : Int) - 8) = 0 := fun h1 => by
        have := al4 h1
        have hl0 : ((([0, 0, 0, 0] : Bs) ++ a).length : Int) - 8 = 0 := by rw [List.length_append]; simp; omega
        rw [hl0]; rfl
      have w2 : r.ae ≠ 1 → IntKind.wrap .i64 ((a.length : Int) - 8) = 8 := fun h1 => by rw [al16 h1]; rfl
      have id1 : r.ae = 1 → (flagsF.z4' ++ a).drop (a.length - 4) = ([0, 0, 0, 0] : Bs) ++ a := fun h1 => by
        have := al4 h1
        rw [show a.length - 4 = 0 by omega]; rfl
      have id2 : r.ae ≠ 1 → (flagsF.z4' ++ a).drop (a.length - 4) = a.drop 8 := fun h1 => by
        have := al16 h1
        rw [show a.length - 4 = flagsF.z4'.length + 8 by show _ = 4 + 8; omega, List.drop_append, List.drop_eq_nil_of_le (by omega), List.nil_append, Nat.add_sub_cancel_left]
      have dz : ∀ x : Bs, x.drop (0 : Int).toNat = x := fun x => rfl
      have d8 : ∀ x : Bs, x.drop (8 : Int).toNat = x.drop 8 := fun x => rfl
      rw [if_pos ap]
      by_cases g : 128 ≤ r.flags
      · rw [ifd g, if_pos hae, if_pos ap]
        by_cases k : r.flags / 64 % 2 = 1
        · rw [if_pos (show (r.flags / 64 % 2 == 1) = true by simp [k])]
          by_cases a1 : r.ae = 1
          · have ef : flagsF c r a = ⟨(if r.ae = 0 then a else c.prefix_c0), (if r.ae = 1 then a else c.prefix_c1), (if r.ae = 2 then a else c.prefix_c2), (if r.ae = 3 then a else c.prefix_c3), c.next_c0, c.next_c1, ([0, 0, 0, 0] : Bs) ++ a⟩ := by
              unfold flagsF; rw [if_neg a0, if_pos k, if_pos g, id1 a1]
            rw [if_pos (show (r.ae == 1) = true by simp [a1]), if_pos (maxB_of (by omega)), w1 a1, if_pos (show 0 ≤ (0 : Int) ∧ (0 : Int) ≤ ((([0, 0, 0, 0] : Bs) ++ a).length : Int) by omega), dz, rtold_tail hr, ← ef]
          · have ef : flagsF c r a = ⟨(if r.ae = 0 then a else c.prefix_c0), (if r.ae = 1 then a else c.prefix_c1), (if r.ae = 2 then a else c.prefix_c2), (if r.ae = 3 then a else c.prefix_c3), c.next_c0, c.next_c1, a.drop 8⟩ := by
              unfold flagsF; rw [if_neg a0, if_pos k, if_pos g, id2 a1]
            have := al16 a1
            rw [if_neg (show ¬ (r.ae == 1) = true by simp [a1]), w2 a1, if_pos (show 0 ≤ (8 : Int) ∧ (8 : Int) ≤ (a.length : Int) by omega), d8, rtold_tail hr, ← ef]
        · have ef : flagsF c r a = ⟨(if r.ae = 0 then a else c.prefix_c0), (if r.ae = 1 then a else c.prefix_c1), (if r.ae = 2 then a else c.prefix_c2), (if r.ae = 3 then a else c.prefix_c3), c.next_c0, c.next_c1, c.id⟩ := by
            unfold flagsF; rw [if_neg a0, if_neg k, if_pos g]
          rw [if_neg (show ¬ (r.flags / 64 % 2 == 1) = true by simp [k]), rtold_tail hr, ← ef]
      · rw [ifn g, if_pos ap]
        by_cases k : r.flags / 64 % 2 = 1
        · rw [if_pos (show (r.flags / 64 % 2 == 1) = true by simp [k])]
          by_cases a1 : r.ae = 1
          · have ef : flagsF c r a = ⟨c.prefix_c0, c.prefix_c1, c.prefix_c2, c.prefix_c3, c.next_c0, c.next_c1, ([0, 0, 0, 0] : Bs) ++ a⟩ := by
              unfold flagsF; rw [if_neg a0, if_pos k, if_neg g, id1 a1]; rfl
            rw [if_pos (show (r.ae == 1) = true by simp [a1]), if_pos (maxB_of (by omega)), w1 a1, if_pos (show 0 ≤ (0 : Int) ∧ (0 : Int) ≤ ((([0, 0, 0, 0] : Bs) ++ a).length : Int) by omega), dz, rtold_tail hr, ← ef]
          · have ef : flagsF c r a = ⟨c.prefix_c0, c.prefix_c1, c.prefix_c2, c.prefix_c3, c.next_c0, c.next_c1, a.drop 8⟩ := by
              unfold flagsF; rw [if_neg a0, if_pos k, if_neg g, id2 a1]; rfl
            have := al16 a1
            rw [if_neg (show ¬ (r.ae == 1) = true by simp [a1]), w2 a1, if_pos (show 0 ≤ (8 : Int) ∧ (8 : Int) ≤ (a.length : Int) by omega), d8, rtold_tail hr, ← ef]
        · have ef : flagsF c r a = c := by
            unfold flagsF; rw [if_neg a0, if_neg k, if_neg g]; rfl
          rw [if_neg (show ¬ (r.flags / 64 % 2 == 1) = true by simp [k]), rtold_tail hr, ef]
def stepC (c : Ctx) (ty : Int) (d : Bs) : Ctx × List Msg × Int :=
  if ty = 6 then ((idF c d).1, [], (idF c d).2) else if ty = 7 then ((hopF c d).1, [], (hopF c d).2) else if ty = 8 then updF c d else (c, [], 0)
theorem cstep_is {c : Ctx} {ty at_ : Int} {d : Bs} (hc : okC c) (hd : d.length ≤ 1000) : g_ctx_Step (c, ⟨ty, at_, d⟩, ()) = some (((stepC c ty d).1, (stepC c ty d).2.1, (stepC c ty d).2.2, ()), ()) := by
  rw [g_ctx_Step_eq]
  unfold stepC
  refine bq_step (fun h => ?_) (fun h => ?_)
  · have := id_is (c := c) (d := d) (by omega)
    unfold stp at this
    dsimp only
    rw [this, if_pos h]; rfl
  rw [if_neg h]
  refine bq_step (fun h => ?_) (fun h => ?_)
  · have := hop_is (c := c) (d := d) (by omega)
    unfold stp at this
    dsimp only
    rw [this, if_pos h]; rfl
  rw [if_neg h]
  refine bq_step (fun h => ?_) (fun h => ?_)
  · have := update_is (c := c) (ty := ty) (at_ := at_) (d := d) hc hd
    unfold stp at this
    rw [this, if_pos h]; rfl
  · rw [if_neg h]
theorem rcstep_is {c : Ctx} {ty at_ : Int} {d : Bs} (hc : okC c) (hd : d.length ≤ 1000) (ht : ty = 6 ∨ ty = 7 ∨ ty = 8) : g_ref22_Step (c, ⟨ty, at_, d⟩, ()) = some (((stepC c ty d).1, (stepC c ty d).2.1, (stepC c ty d).2.2, ()), ()) := by
  rw [g_ref22_Step_eq]
  unfold stepC
  dsimp only
  refine bq_step (fun h => ?_) (fun h => ?_)
  · rw [rfixed_is (by omega) (by omega), Option.bind_some, if_pos h]
    unfold idF
    dsimp only
    cases hk : (countF d 10).1 with
    | false => rw [iff_, ite_self, if_neg (by simp)]
    | true =>
      have := countF_known hk
      rw [this.1, if_pos (by decide), ift, if_pos (by omega), if_pos rfl]; rfl
  rw [if_neg h]
  refine bq_step (fun h => ?_) (fun h => ?_)
  · rw [rhop_is (by omega), Option.bind_some, if_pos h]
  · rw [if_neg h, rupdate_is hc hd, Option.bind_some, if_pos (by omega)]
end Go.VP
set_option linter.unusedVariables false
set_option linter.unusedSimpArgs false
set_option maxRecDepth 100000
namespace Go.VP
open Go Go.VI
theorem okC_none : okC ⟨[], [], [], [], [], [], []⟩ := ⟨rfl, .inl rfl, .inl rfl, .inl rfl, .inl rfl, .inl rfl, .inl rfl⟩
theorem okC_id {c : Ctx} {d : Bs} (h : okC c) : okC (idF c d).1 := by
  unfold idF
  cases hk : (countF d 10).1 with
  | false => rw [if_neg (by simp)]; exact h
  | true =>
    have := countF_known hk
    rw [if_pos rfl]
    obtain ⟨h0, h1, h2, h3, h4, h5, h6⟩ := h
    refine ⟨h0, h1, h2, h3, h4, h5, .inr ?_⟩
    have hl := cut_length (s := d) (p := 2) (n := 8) (by omega) (by omega) (by omega)
    show (cut_ d 2 8).length = 8
    omega
theorem okC_hop {c : Ctx} {d : Bs} (h : okC c) : okC (hopF c d).1 := by
  unfold hopF
  split
  · exact h
  split
  · exact h
  rename_i h2 hr
  cases hk : (countF d (2 + hopN (bt d 0))).1 with
  | false => rw [if_neg (by simp)]; exact h
  | true =>
    have hl := countF_known hk
    rw [if_pos rfl]
    obtain ⟨h0, h1, h2, h3, h4, h5, h6⟩ := h
    have hn := hopN_rng (bt d 0)
    have hc := cut_length (s := d) (p := 2) (n := hopN (bt d 0)) (by omega) (by omega) (by omega)
    have hv : bt d 0 = 1 ∨ bt d 0 = 2 ∨ bt d 0 = 3 := by omega
    have hlong : bt d 0 = 3 → (longF (cut_ d 2 (hopN (bt d 0)))).1.length = 16 := fun e => by
      have h8 : hopN (bt d 0) = 8 := by rw [e]; rfl
      rw [h8] at hc ⊢
      unfold longF
      rw [if_pos (by omega), List.length_append]
      show 8 + (cut_ d 2 8).length = 16
      omega
    refine ⟨h0, h1, h2, h3, ?_, ?_, h6⟩
    · show (if famE (bt d 0) = 0 then hopA d else c.next_c0) = [] ∨ (if famE (bt d 0) = 0 then hopA d else c.next_c0).length = 4
      rcases hv with e | e | e
      · rw [if_pos (by rw [e]; rfl)]
        right
        unfold hopA
        rw [if_neg (by omega)]
        have : hopN (bt d 0) = 4 := by rw [e]; rfl
        omega
      · rw [if_neg (by rw [e]; decide)]; exact h4
      · rw [if_neg (by rw [e]; decide)]; exact h4
    · show (if famE (bt d 0) = 1 then hopA d else c.next_c1) = [] ∨ (if famE (bt d 0) = 1 then hopA d else c.next_c1).length = 16
      rcases hv with e | e | e
      · rw [if_neg (by rw [e]; decide)]; exact h5
      · rw [if_pos (by rw [e]; rfl)]
        right
        unfold hopA
        rw [if_neg (by omega)]
        have : hopN (bt d 0) = 16 := by rw [e]; rfl
        omega
      · rw [if_pos (by rw [e]; rfl)]
        right
        unfold hopA
        rw [if_pos e]
        exact hlong e
theorem addrF_link {c : Ctx} {r : Raw} (hc : okC c) (hr : RawOk r) (h : (addrF c r).2 = true) (h3 : r.ae = 3) : linkB (addrF c r).1 = true := by
  have hl := hr.len
  have ho := hr.om
  have hlow := hr.low
  have hbs := baseA_rng r.ae
  have s3 : szA r.ae - baseA r.ae = 8 := by rw [h3]; rfl
  have hp : 64 ≤ r.plen := by rw [h3] at hlow; exact hlow
  unfold addrF at h ⊢
  by_cases h0 : r.omitted = 0
  · rw [if_pos h0, h3]; exact wholeF_link hp (by omega)
  · rw [if_neg h0] at h ⊢
    by_cases he : preC c r.ae = []
    · rw [if_pos he] at h; cases h
    · rw [if_neg he]
      have hpl := preC_len hc hr.ae he
      have hcl : ((cut_ (preC c r.ae) (baseA r.ae) r.omitted).length : Int) = r.omitted := cut_length (by omega) ho (by omega)
      rw [h3] at hcl ⊢
      exact wholeF_link hp (by rw [List.length_append]; omega)
theorem okC_flags {c : Ctx} {r : Raw} {a : Bs} (h : okC c) (hr : RawOk r) (hl : (a.length : Int) = szA r.ae) (h3 : r.ae = 3 → linkB a = true) : okC (flagsF c r a) := by
  unfold flagsF
  split
  · exact h
  rename_i a0
  have hae := hr.ae
  have hid : okC (setId c (if r.flags / 64 % 2 = 1 then (flagsF.z4' ++ a).drop (a.length - 4) else c.id)) ∧ ((if r.flags / 64 % 2 = 1 then (flagsF.z4' ++ a).drop (a.length - 4) else c.id) = [] ∨ (if r.flags / 64 % 2 = 1 then (flagsF.z4' ++ a).drop (a.length - 4) else c.id).length = 8) := by
    have h4 : 4 ≤ a.length := by
      rcases ae_cases hae with e | e | e | e
      · exact absurd e a0
      · rw [e] at hl; have : szA 1 = 4 := rfl; omega
      · rw [e] at hl; have : szA 2 = 16 := rfl; omega
      · rw [e] at hl; have : szA 3 = 16 := rfl; omega
    have h8 : (if r.flags / 64 % 2 = 1 then (flagsF.z4' ++ a).drop (a.length - 4) else c.id) = [] ∨ (if r.flags / 64 % 2 = 1 then (flagsF.z4' ++ a).drop (a.length - 4) else c.id).length = 8 := by
      split
      · right; rw [List.length_drop, List.length_append]; show 4 + a.length - (a.length - 4) = 8; omega
      · exact h.2.2.2.2.2.2
    obtain ⟨h0, h1, h2, h3, h4, h5, h6⟩ := h
    exact ⟨⟨h0, h1, h2, h3, h4, h5, h8⟩, h8⟩
  obtain ⟨h0, h1, h2, h3', h4, h5, h6⟩ := h
  dsimp only
  split
  · refine ⟨?_, ?_, ?_, ?_, h4, h5, hid.2⟩
    · exact h0
    · show (if r.ae = 1 then a else c.prefix_c1) = [] ∨ (if r.ae = 1 then a else c.prefix_c1).length = 4
      split
      · rename_i e; rw [e] at hl; have : szA 1 = 4 := rfl; right; omega
      · exact h1
    · show (if r.ae = 2 then a else c.prefix_c2) = [] ∨ (if r.ae = 2 then a else c.prefix_c2).length = 16
      split
      · rename_i e; rw [e] at hl; have : szA 2 = 16 := rfl; right; omega
      · exact h2
    · show (if r.ae = 3 then a else c.prefix_c3) = [] ∨ linkB (if r.ae = 3 then a else c.prefix_c3) = true
      split
      · rename_i e; exact .inr (h3 e)
      · exact h3'
  · exact hid.1
theorem okC_upd {c : Ctx} {d : Bs} (h : okC c) : okC (updF c d).1 := by
  unfold updF
  split
  · rename_i ht
    obtain ⟨hr, _⟩ := takeG_raw ht
    split
    · rename_i ha
      have := okC_flags h hr (addrF_len h hr ha) (addrF_link h hr ha)
      split <;> exact this
    · exact h
  · exact h
theorem okC_step {c : Ctx} {ty : Int} {d : Bs} (h : okC c) : okC (stepC c ty d).1 := by
  unfold stepC
  split
  · exact okC_id h
  split
  · exact okC_hop h
  split
  · exact okC_upd h
  · exact h
end Go.VP
set_option linter.unusedVariables false
set_option linter.unusedSimpArgs false
set_option maxRecDepth 100000
namespace Go.VP
open Go Go.VI
def opaqueM (ty : Int) (d : Bs) : Msg := ⟨14, 0, 0, [], 0, 0, [], 0, 0, [], 0, [], 0, 0, 0, 0, 0, 0, 0, [], [], [], ty, d, []⟩
def resF (c : Ctx) (x : Msg × Bool × Int) : Ctx × List Msg × Int := if x.2.2 ≠ 0 then (c, [], x.2.2) else if x.2.1 = true then (c, [x.1], 0) else (c, [], 0)
theorem res_is (c : Ctx) (x : Msg × Bool × Int) : (if (x.2.2 != 0) = true then (some ((c, [], x.2.2, ()), ()) : Option ((Ctx × List Msg × Int × Unit) × Unit)) else (if (!x.2.1) = true then some ((c, [], x.2.2, ()), ()) else some ((c, [x.1], 0, ()), ()))) = some (((resF c x).1, (resF c x).2.1, (resF c x).2.2, ()), ()) := by
  obtain ⟨m, k, e⟩ := x
  unfold resF
  dsimp only
  refine ne_step (fun h => by rw [if_pos h]) (fun h => ?_)
  rw [if_neg (show ¬ e ≠ 0 from fun q => q h)]
  cases k with
  | false => rw [ifnf, if_neg (by simp), h]
  | true => rw [ifnt, if_pos rfl]
def oneR (c : Ctx) (ty : Int) (d : Bs) : Ctx × List Msg × Int :=
  if ty = 0 ∨ ty = 1 then (c, [], 0) else if ty = 6 ∨ ty = 7 ∨ ty = 8 then stepC c ty d
  else if 2 ≤ ty ∧ ty ≤ 5 then resF c (fieldG ty d) else if ty = 9 ∨ ty = 10 then resF c (routeG ty d) else (c, [opaqueM ty d], 0)
theorem one_is {c : Ctx} {ty at_ : Int} {d : Bs} (hc : okC c) (hd : d.length ≤ 1000) : g_intake_one (c, ⟨ty, at_, d⟩, ()) = some (((oneR c ty d).1, (oneR c ty d).2.1, (oneR c ty d).2.2, ()), ()) := by
  have hcases : ty = 0 ∨ ty = 1 ∨ ty = 2 ∨ ty = 3 ∨ ty = 4 ∨ ty = 5 ∨ ty = 6 ∨ ty = 7 ∨ ty = 8 ∨ ty = 9 ∨ ty = 10 ∨ (ty ≠ 0 ∧ ty ≠ 1 ∧ ty ≠ 2 ∧ ty ≠ 3 ∧ ty ≠ 4 ∧ ty ≠ 5 ∧ ty ≠ 6 ∧ ty ≠ 7 ∧ ty ≠ 8 ∧ ty ≠ 9 ∧ ty ≠ 10) := by omega
  rw [g_intake_one_eq]
  dsimp only
  rcases hcases with rfl | rfl | rfl | rfl | rfl | rfl | rfl | rfl | rfl | rfl | rfl | ⟨h0, h1, h2, h3, h4, h5, h6, h7, h8, h9, h10⟩
  · rfl
  · rfl
  · simp only [Int.reduceBEq, Bool.false_eq_true, if_false, if_true]
    rw [getF_is hd (by decide), Option.bind_some]
    exact res_is c _
  · simp only [Int.reduceBEq, Bool.false_eq_true, if_false, if_true]
    rw [getF_is hd (by decide), Option.bind_some]
    exact res_is c _
  · simp only [Int.reduceBEq, Bool.false_eq_true, if_false, if_true]
    rw [getF_is hd (by decide), Option.bind_some]
    exact res_is c _
  · simp only [Int.reduceBEq, Bool.false_eq_true, if_false, if_true]
    rw [getF_is hd (by decide), Option.bind_some]
    exact res_is c _
  · simp only [Int.reduceBEq, Bool.false_eq_true, if_false, if_true]
    rw [cstep_is hc hd, Option.bind_some]; rfl
  · simp only [Int.reduceBEq, Bool.false_eq_true, if_false, if_true]
    rw [cstep_is hc hd, Option.bind_some]; rfl
  · simp only [Int.reduceBEq, Bool.false_eq_true, if_false, if_true]
    rw [cstep_is hc hd, Option.bind_some]; rfl
  · simp only [Int.reduceBEq, Bool.false_eq_true, if_false, if_true]
    rw [getR_is hd (by decide), Option.bind_some]
    exact res_is c _
  · simp only [Int.reduceBEq, Bool.false_eq_true, if_false, if_true]
    rw [getR_is hd (by decide), Option.bind_some]
    exact res_is c _
  · have e : ∀ k : Int, ty ≠ k → (ty == k) = false := fun k h => by simpa using h
    simp only [e _ h0, e _ h1, e _ h2, e _ h3, e _ h4, e _ h5, e _ h6, e _ h7, e _ h8, e _ h9, e _ h10, Bool.false_eq_true, if_false]
    unfold oneR
    rw [if_neg (by omega), if_neg (by omega), if_neg (by omega), if_neg (by omega)]; rfl
theorem rone_is {c : Ctx} {ty at_ : Int} {d : Bs} (hc : okC c) (hd : d.length ≤ 1000) : g_ref23_one (c, ⟨ty, at_, d⟩, ()) = some (((oneR c ty d).1, (oneR c ty d).2.1, (oneR c ty d).2.2, ()), ()) := by
  have hcases : ty = 0 ∨ ty = 1 ∨ ty = 2 ∨ ty = 3 ∨ ty = 4 ∨ ty = 5 ∨ ty = 6 ∨ ty = 7 ∨ ty = 8 ∨ ty = 9 ∨ ty = 10 ∨ (ty ≠ 0 ∧ ty ≠ 1 ∧ ty ≠ 2 ∧ ty ≠ 3 ∧ ty ≠ 4 ∧ ty ≠ 5 ∧ ty ≠ 6 ∧ ty ≠ 7 ∧ ty ≠ 8 ∧ ty ≠ 9 ∧ ty ≠ 10) := by omega
  rw [g_ref23_one_eq]
  dsimp only
  rcases hcases with rfl | rfl | rfl | rfl | rfl | rfl | rfl | rfl | rfl | rfl | rfl | ⟨h0, h1, h2, h3, h4, h5, h6, h7, h8, h9, h10⟩
  · rfl
  · rfl
  · simp only [Int.reduceBEq, Bool.false_eq_true, if_false, if_true]
    rw [rgetF_is hd (by decide), Option.bind_some]
    exact res_is c _
  · simp only [Int.reduceBEq, Bool.false_eq_true, if_false, if_true]
    rw [rgetF_is hd (by decide), Option.bind_some]
    exact res_is c _
  · simp only [Int.reduceBEq, Bool.false_eq_true, if_false, if_true]
    rw [rgetF_is hd (by decide), Option.bind_some]
    exact res_is c _
  · simp only [Int.reduceBEq, Bool.false_eq_true, if_false, if_true]
    rw [rgetF_is hd (by decide), Option.bind_some]
    exact res_is c _
  · simp only [Int.reduceBEq, Bool.false_eq_true, if_false, if_true]
    rw [rcstep_is hc hd (by decide), Option.bind_some]; rfl
  · simp only [Int.reduceBEq, Bool.false_eq_true, if_false, if_true]
    rw [rcstep_is hc hd (by decide), Option.bind_some]; rfl
  · simp only [Int.reduceBEq, Bool.false_eq_true, if_false, if_true]
    rw [rcstep_is hc hd (by decide), Option.bind_some]; rfl
  · simp only [Int.reduceBEq, Bool.false_eq_true, if_false, if_true]
    rw [rgetR_is hd (by decide), Option.bind_some]
    exact res_is c _
  · simp only [Int.reduceBEq, Bool.false_eq_true, if_false, if_true]
    rw [rgetR_is hd (by decide), Option.bind_some]
    exact res_is c _
  · have e : ∀ k : Int, ty ≠ k → (ty == k) = false := fun k h => by simpa using h
    simp only [e _ h0, e _ h1, e _ h2, e _ h3, e _ h4, e _ h5, e _ h6, e _ h7, e _ h8, e _ h9, e _ h10, Bool.false_eq_true, if_false]
    unfold oneR
    rw [if_neg (by omega), if_neg (by omega), if_neg (by omega), if_neg (by omega)]; rfl
end Go.VP
set_option linter.unusedVariables false
set_option linter.unusedSimpArgs false
set_option maxRecDepth 100000
namespace Go.VP
open Go Go.VI
theorem resF_cl (c : Ctx) (x : Msg × Bool × Int) : (resF c x).1 = c ∧ (resF c x).2.1.length ≤ 1 := by
  unfold resF; split
  · exact ⟨rfl, by simp⟩
  split <;> exact ⟨rfl, by simp⟩
theorem updF_len (c : Ctx) (d : Bs) : (updF c d).2.1.length ≤ 1 := by
  unfold updF; split
  · split
    · split <;> simp
    · simp
  · simp
theorem okC_one {c : Ctx} {ty : Int} {d : Bs} (h : okC c) : okC (oneR c ty d).1 ∧ (oneR c ty d).2.1.length ≤ 1 := by
  unfold oneR
  split
  · exact ⟨h, by simp⟩
  split
  · refine ⟨okC_step h, ?_⟩
    unfold stepC
    split
    · simp
    split
    · simp
    split
    · exact updF_len c d
    · simp
  split
  · have := resF_cl c (fieldG ty d); exact ⟨by rw [this.1]; exact h, this.2⟩
  split
  · have := resF_cl c (routeG ty d); exact ⟨by rw [this.1]; exact h, this.2⟩
  · exact ⟨h, by simp⟩
def c0 : Ctx := ⟨[], [], [], [], [], [], []⟩
def foldR : Ctx → List Tlv → List Msg → List Msg × Ctx × Int × Int
  | c, [], acc => (acc, c, 0, 0)
  | c, t :: r, acc => if (oneR c t.type_ t.data).2.2 ≠ 0 then ([], c0, t.at_, (oneR c t.type_ t.data).2.2) else foldR (oneR c t.type_ t.data).1 r (acc ++ (oneR c t.type_ t.data).2.1)
theorem msgBo2 : bo_api_Msg ≤ 100000 := Nat.le_of_ble_eq_true (by kernel_rfl)
theorem fold_loop {n : Nat} {l : List Tlv} (hl : l.length ≤ 100000) (hd : ∀ t ∈ l, t.data.length ≤ 1000) : ∀ (k m i : Nat) (c : Ctx) (acc : List Msg), i + k = l.length → k < m → okC c → acc.length ≤ i →
    L_intake_Fold_0 n m l acc c.prefix_c0 c.prefix_c1 c.prefix_c2 c.prefix_c3 c.next_c0 c.next_c1 c.id i = some (((foldR c (l.drop i) acc).1, (foldR c (l.drop i) acc).2.1, (foldR c (l.drop i) acc).2.2.1, (foldR c (l.drop i) acc).2.2.2, ()), ()) := by
  intro k
  induction k with
  | zero =>
    intro m i c acc h hm hc ha
    obtain ⟨m, rfl⟩ : ∃ k, m = k + 1 := ⟨m - 1, by omega⟩
    rw [L_intake_Fold_0_eq, ifn (by omega), List.drop_eq_nil_of_le (by omega)]; rfl
  | succ k ih =>
    intro m i c acc h hm hc ha
    obtain ⟨m, rfl⟩ : ∃ k, m = k + 1 := ⟨m - 1, by omega⟩
    have hi : i < l.length := by omega
    have h1 := one_is (at_ := l[i].at_) (ty := l[i].type_) hc (hd _ (List.getElem_mem hi))
    obtain ⟨o1, o2⟩ := okC_one (ty := l[i].type_) (d := l[i].data) hc
    have := ih m (i + 1) _ (acc ++ (oneR c l[i].type_ l[i].data).2.1) (by omega) (by omega) o1 (by rw [List.length_append]; omega)
    rw [show ((i + 1 : Nat) : Int) = (i : Int) + 1 by omega] at this
    have hp : 0 ≤ (i : Int) := by omega
    have hbo := msgBo2
    rw [L_intake_Fold_0_eq, ifd (by omega), if_pos hp, Int.toNat_natCast, bind_at hi, List.drop_eq_getElem_cons hi, foldR]
    rw [show (S_api_Ctx.mk c.prefix_c0 c.prefix_c1 c.prefix_c2 c.prefix_c3 c.next_c0 c.next_c1 c.id) = c from rfl, h1, Option.bind_some]
    dsimp only
    refine ne_step (fun he => ?_) (fun he => ?_)
    · rw [if_pos hp, bind_at hi, if_pos he]; rfl
    · rw [if_pos (roomB_of (Nat.le_trans (Nat.mul_le_mul (show acc.length + (oneR c l[i].type_ l[i].data).2.1.length ≤ 100001 by omega) hbo) (by decide))), w64 (by omega) (by omega), this, if_neg (fun q => q he)]
theorem rfold_loop {n : Nat} {l : List Tlv} (hl : l.length ≤ 100000) (hd : ∀ t ∈ l, t.data.length ≤ 1000) : ∀ (k m i : Nat) (c : Ctx) (acc : List Msg), i + k = l.length → k < m → okC c → acc.length ≤ i →
    L_ref23_Fold_0 n m l acc c.prefix_c0 c.prefix_c1 c.prefix_c2 c.prefix_c3 c.next_c0 c.next_c1 c.id i = some (((foldR c (l.drop i) acc).1, (foldR c (l.drop i) acc).2.1, (foldR c (l.drop i) acc).2.2.1, (foldR c (l.drop i) acc).2.2.2, ()), ()) := by
  intro k
  induction k with
  | zero =>
    intro m i c acc h hm hc ha
    obtain ⟨m, rfl⟩ : ∃ k, m = k + 1 := ⟨m - 1, by omega⟩
    rw [L_ref23_Fold_0_eq, ifn (by omega), List.drop_eq_nil_of_le (by omega)]; rfl
  | succ k ih =>
    intro m i c acc h hm hc ha
    obtain ⟨m, rfl⟩ : ∃ k, m = k + 1 := ⟨m - 1, by omega⟩
    have hi : i < l.length := by omega
    have h1 := rone_is (at_ := l[i].at_) (ty := l[i].type_) hc (hd _ (List.getElem_mem hi))
    obtain ⟨o1, o2⟩ := okC_one (ty := l[i].type_) (d := l[i].data) hc
    have := ih m (i + 1) _ (acc ++ (oneR c l[i].type_ l[i].data).2.1) (by omega) (by omega) o1 (by rw [List.length_append]; omega)
    rw [show ((i + 1 : Nat) : Int) = (i : Int) + 1 by omega] at this
    have hp : 0 ≤ (i : Int) := by omega
    have hbo := msgBo2
    rw [L_ref23_Fold_0_eq, ifd (by omega), if_pos hp, Int.toNat_natCast, bind_at hi, List.drop_eq_getElem_cons hi, foldR]
    rw [show (S_api_Ctx.mk c.prefix_c0 c.prefix_c1 c.prefix_c2 c.prefix_c3 c.next_c0 c.next_c1 c.id) = c from rfl, h1, Option.bind_some]
    dsimp only
    refine ne_step (fun he => ?_) (fun he => ?_)
    · rw [if_pos hp, bind_at hi, if_pos he]; rfl
    · rw [if_pos (roomB_of (Nat.le_trans (Nat.mul_le_mul (show acc.length + (oneR c l[i].type_ l[i].data).2.1.length ≤ 100001 by omega) hbo) (by decide))), w64 (by omega) (by omega), this, if_neg (fun q => q he)]
theorem okC_c0 : okC c0 := okC_none
theorem fold_is {l : List Tlv} (hl : l.length ≤ 100000) (hd : ∀ t ∈ l, t.data.length ≤ 1000) : g_intake_Fold (l, ()) = some (((foldR c0 l []).1, (foldR c0 l []).2.1, (foldR c0 l []).2.2.1, (foldR c0 l []).2.2.2, ()), ()) := by
  show h_intake_Fold fuel (l, ()) = _
  rw [h_intake_Fold_eq]
  exact fold_loop (n := fuel) hl hd l.length fuel 0 c0 [] (by omega) (fuel_ge (by omega)) okC_c0 (by simp)
theorem rfold_is {l : List Tlv} (hl : l.length ≤ 100000) (hd : ∀ t ∈ l, t.data.length ≤ 1000) : g_ref23_Fold (l, ()) = some (((foldR c0 l []).1, (foldR c0 l []).2.1, (foldR c0 l []).2.2.1, (foldR c0 l []).2.2.2, ()), ()) := by
  show h_ref23_Fold fuel (l, ()) = _
  rw [h_ref23_Fold_eq]
  exact rfold_loop (n := fuel) hl hd l.length fuel 0 c0 [] (by omega) (fuel_ge (by omega)) okC_c0 (by simp)
end Go.VP
set_option linter.unusedVariables false
set_option linter.unusedSimpArgs false
set_option maxRecDepth 100000
namespace Go.VP
open Go Go.VI
theorem foldR_err : ∀ (a : List Tlv) (c : Ctx) (acc : List Msg), (foldR c a acc).2.2.2 ≠ 0 → (foldR c a acc).1 = [] ∧ (foldR c a acc).2.1 = c0
  | [], c, acc, h => absurd rfl h
  | t :: r, c, acc, h => by
    rw [foldR] at h ⊢
    by_cases he : (oneR c t.type_ t.data).2.2 ≠ 0
    · rw [if_pos he]; exact ⟨rfl, rfl⟩
    · rw [if_neg he] at h ⊢
      exact foldR_err r _ _ h
theorem foldR_fine : ∀ (a : List Tlv) (c : Ctx) (acc : List Msg), (foldR c a acc).2.2.2 = 0 → (foldR c a acc).2.2.1 = 0
  | [], c, acc, h => rfl
  | t :: r, c, acc, h => by
    rw [foldR] at h ⊢
    by_cases he : (oneR c t.type_ t.data).2.2 ≠ 0
    · rw [if_pos he] at h; exact absurd h he
    · rw [if_neg he] at h ⊢
      exact foldR_fine r _ _ h
theorem foldR_len : ∀ (a : List Tlv) (c : Ctx) (acc : List Msg), okC c → (foldR c a acc).1.length ≤ acc.length + a.length ∧ okC (foldR c a acc).2.1
  | [], c, acc, hc => ⟨by show acc.length ≤ _; omega, hc⟩
  | t :: r, c, acc, hc => by
    rw [foldR]
    obtain ⟨h1, h2⟩ := okC_one (ty := t.type_) (d := t.data) hc
    by_cases he : (oneR c t.type_ t.data).2.2 ≠ 0
    · rw [if_pos he]; exact ⟨by simp, okC_c0⟩
    · rw [if_neg he]
      obtain ⟨h3, h4⟩ := foldR_len r _ (acc ++ (oneR c t.type_ t.data).2.1) h1
      exact ⟨by simp only [List.length_append, List.length_cons] at h3 ⊢; omega, h4⟩
theorem foldR_all {P : Msg → Prop} {Q : Tlv → Prop} (hP : ∀ c t, okC c → Q t → ∀ m ∈ (oneR c t.type_ t.data).2.1, P m) : ∀ (a : List Tlv) (c : Ctx) (acc : List Msg), okC c → (∀ t ∈ a, Q t) → (∀ m ∈ acc, P m) → ∀ m ∈ (foldR c a acc).1, P m
  | [], c, acc, hc, hq, h => h
  | t :: r, c, acc, hc, hq, h => by
    rw [foldR]
    obtain ⟨h1, h2⟩ := okC_one (ty := t.type_) (d := t.data) hc
    by_cases he : (oneR c t.type_ t.data).2.2 ≠ 0
    · rw [if_pos he]; intro m hm; cases hm
    · rw [if_neg he]
      refine foldR_all hP r _ _ h1 (fun x hx => hq x (List.mem_cons_of_mem _ hx)) (fun m hm => ?_)
      rcases List.mem_append.1 hm with hm | hm
      · exact h m hm
      · exact hP _ _ hc (hq t (List.mem_cons_self ..)) m hm
def Except.app (x : Except Int (List Tlv)) (a : List Tlv) : Except Int (List Tlv) := x.map (a ++ ·)
end Go.VP
set_option linter.unusedVariables false
set_option linter.unusedSimpArgs false
set_option maxRecDepth 100000
namespace Go.VP
open Go Go.VI
structure UpdR (m : Msg) : Prop where
  kind : m.kind = 11
  bare : bareB m = true
  subs : rightB m.subs = true
  inn : inB m.ae m.prefix_ m.plen = true
  iv : 0 ≤ m.interval ∧ m.interval < 65536
  sq : 0 ≤ m.seq ∧ m.seq < 65536
  me : 0 ≤ m.metric ∧ m.metric < 65536
  far : m.metric = 65535 → m.id = [] ∧ m.next = []
  near : m.metric ≠ 65535 → 0 < m.ae ∧ m.id.length = 8 ∧ (m.next = [] ∨ famF m.next = famE m.ae)
def tailB (m : Msg) : Bool := if m.metric = 65535 then (m.id == [] && m.next == []) else decide (0 < m.ae) && (decide (m.id.length = 8) && (m.next == [] || decide (famF m.next = famE m.ae)))
noncomputable def updB (m : Msg) : Bool := decide (m.kind = 11) && (bareB m && (rightB m.subs && (inB m.ae m.prefix_ m.plen && (fitsB m.interval 2 && (fitsB m.seq 2 && (fitsB m.metric 2 && tailB m))))))
theorem updR_iff {m : Msg} : updB m = true ↔ UpdR m := by
  unfold updB tailB
  simp only [Bool.and_eq_true, decide_eq_true_eq, fitsB2]
  constructor
  · rintro ⟨a, b, c, d, e, f, g, h⟩
    refine ⟨a, b, c, d, e, f, g, fun hm => ?_, fun hm => ?_⟩
    · rw [if_pos hm] at h; simpa using h
    · rw [if_neg hm] at h; simpa using h
  · intro h
    refine ⟨h.1, h.2, h.3, h.4, h.5, h.6, h.7, ?_⟩
    by_cases hm : m.metric = 65535
    · rw [if_pos hm]; simpa using h.far hm
    · rw [if_neg hm]; simpa using h.near hm
def mk12 (ae : Int) (a : Bs) (plen : Int) : Msg := ⟨12, 0, 0, [], 0, ae, a, plen, 0, [], 0, [], 0, 0, 0, 0, 0, 0, 0, [], [], [], 0, [], []⟩
theorem UpdR.asR {m : Msg} (h : UpdR m) : RouteR (mk12 m.ae m.prefix_ m.plen) := by
  obtain ⟨a, b, c, d, e⟩ := inB_iff.1 h.inn
  have hb : bareOf (mk12 m.ae m.prefix_ m.plen) = some (mk12 m.ae m.prefix_ m.plen) := rfl
  exact ⟨by rw [bareB, hb]; exact eqB_refl _, rfl, a, b, c, d, e, rfl⟩
theorem UpdR.pre {m : Msg} (h : UpdR m) : (0 ≤ m.ae ∧ m.ae < 4) ∧ (0 ≤ m.plen ∧ m.plen ≤ 128) ∧ ((bytesP m).length : Int) = leastF m.plen - baseA m.ae ∧ (bytesP m).length ≤ 16 ∧ (0 ≤ baseA m.ae ∧ baseA m.ae ≤ 8) ∧ m.prefix_.length ≤ 16 := by
  have r := h.asR
  have hc : ((bytesP m).length : Int) = leastF m.plen - baseA m.ae := r.cut.2
  obtain ⟨l1, l2, l3, l4, l5, l6⟩ := least_base r.ae r.plen
  have hl : (m.prefix_.length : Int) = szA m.ae := r.len
  have hb := baseA_rng m.ae
  dsimp only [mk12] at l1 l2 l3 l4 l5 l6
  exact ⟨r.ae, ⟨l4, l5⟩, hc, by omega, hb, by omega⟩
def nextC (c : Ctx) (f : Int) : Bs := if f = 0 then c.next_c0 else c.next_c1
theorem famF_cases {a : Bs} {f : Int} (hf : famF a = f) (h : f = 0 ∨ f = 1) : (f = 0 ∧ a.length = 4) ∨ (f = 1 ∧ a.length = 16) := by
  unfold famF at hf
  split at hf
  · exact .inl ⟨hf.symm, by assumption⟩
  split at hf
  · exact .inr ⟨hf.symm, by assumption⟩
  · omega
end Go.VP
set_option linter.unusedVariables false
set_option linter.unusedSimpArgs false
set_option maxRecDepth 100000
namespace Go.VP
open Go Go.VI
structure OpqR (m : Msg) : Prop where
  kind : m.kind = 14
  bare : bareB m = true
  ty : 10 < m.type_ ∧ m.type_ < 256
  len : m.data.length < 256
inductive LeanR (m : Msg) : Prop
  | field (h : FieldR m)
  | route (h : RouteR m)
  | upd (h : UpdR m)
  | opq (h : OpqR m)
structure GoodL (m : Msg) : Prop where
  good : GoodM m
  ty : IntKind.has .i64 m.type_
  metric : IntKind.has .i64 m.metric
theorem takeG_subs {d : Bs} (h : (takeG d).1.have_ = 1) (hk : (takeG d).2.1 = true) : AllR (takeG d).1.subs ∧ sumN (takeG d).1.subs ≤ 200 ∧ (takeG d).1.subs.length ≤ d.length ∧ 10 + sumN (takeG d).1.subs ≤ d.length ∧ (0 ≤ (takeG d).1.interval ∧ (takeG d).1.interval < 65536) ∧ (0 ≤ (takeG d).1.seq ∧ (takeG d).1.seq < 65536) ∧ (0 ≤ (takeG d).1.plen ∧ (takeG d).1.plen ≤ highA (takeG d).1.ae) := by
  have b0 := bt_rng d 0
  have b2 := bt_rng d 2
  unfold takeG at h hk ⊢
  split at hk
  · cases hk
  rename_i h1
  split at hk
  · cases hk
  rename_i h2
  rw [if_neg h1, if_neg h2] at h ⊢
  dsimp only at h hk ⊢
  split at hk
  · cases hk
  rename_i h3
  split at hk
  · cases hk
  rename_i h4
  rw [if_neg h3, if_neg h4] at h ⊢
  dsimp only at h ⊢
  have h3' : (preF d 10 (bt d 0) (bt d 2) (bt d 3)).2 = 0 := by simpa using h3
  have hrest : 0 ≤ restN (bt d 0) (bt d 2) (bt d 3) := by
    unfold preF at h3'
    split at h3'
    · cases h3'
    · omega
  have hg : greatB (bt d 0) (bt d 2) = false := by
    unfold preF at h3'
    split at h3'
    · cases h3'
    · rename_i q; cases e : greatB (bt d 0) (bt d 2) with
      | false => rfl
      | true => exact absurd (.inl e) q
  have hp : lowA (bt d 0) ≤ bt d 2 ∧ bt d 2 ≤ highA (bt d 0) := by unfold greatB at hg; simpa using hg
  rcases getS_cases (d.drop (10 + restN (bt d 0) (bt d 2) (bt d 3)).toNat) with ⟨l, e, q1, q2, q3, q4⟩ | ⟨l, e⟩ | ⟨x, e, q⟩
  · rw [e] at h ⊢
    rw [List.length_drop] at q3 q4
    exact ⟨q1, q2, by dsimp only; omega, by dsimp only; omega, num_cut_rng (by omega) (by omega), num_cut_rng (by omega) (by omega), by omega, hp.2⟩
  · rw [e] at h; cases h
  · rw [e] at h4; exact absurd q h4
theorem updF_cases {c : Ctx} {d : Bs} (hc : okC c) (hd : d.length ≤ 900) : (updF c d).2.1 = [] ∨ ∃ m, (updF c d).2.1 = [m] ∧ UpdR m ∧ GoodL m ∧ sumN m.subs + 10 ≤ d.length ∧ (updF c d).2.2 = 0 ∧ (m.metric ≠ 65535 → (updF c d).1.id = m.id ∧ nextC (updF c d).1 (famE m.ae) = m.next) := by
  unfold updF
  split
  rotate_left
  · exact .inl rfl
  rename_i ht
  split
  rotate_left
  · exact .inl rfl
  rename_i ha
  split
  rotate_left
  · exact .inl rfl
  rename_i hto
  obtain ⟨hr, h0⟩ := takeG_raw ht
  have hl := addrF_len hc hr ha
  have hk := addrF_link hc hr ha
  have h1 : (takeG d).1.have_ = 1 := by
    unfold toldB at hto; simp at hto; exact hto.1
  obtain ⟨s1, s2, s3, s4, s5, s6, s7⟩ := takeG_subs h1 ht
  have hclean : keepF (addrF c (takeG d).1).1 (takeG d).1.plen = (addrF c (takeG d).1).1 := by
    unfold addrF at ha ⊢
    split
    · unfold wholeF; exact keepF_idem _ _
    · rename_i q; rw [if_neg q] at ha
      split
      · rename_i q2; rw [if_pos q2] at ha; cases ha
      · unfold wholeF; exact keepF_idem _ _
  have hok := okC_flags hc hr hl hk
  have hlow := hr.low
  have hsub2 := sub_len (l := (takeG d).1.subs)
  generalize (takeG d).1 = r at *
  generalize (addrF c r).1 = a at *
  have hae := hr.ae
  have hme := hr.metric
  have hsz : szA r.ae ≤ 16 := by unfold szA; split <;> (try split) <;> (try split) <;> omega
  have hmu : (updM (flagsF c r a) r a).metric = r.metric := rfl
  have hhi : highA r.ae ≤ 128 := by unfold highA; split <;> (try split) <;> (try split) <;> omega
  generalize hfc : flagsF c r a = F at *
  have hFid : r.metric ≠ 65535 → F.id.length = 8 ∧ 0 < r.ae := fun hm => by
    unfold toldB at hto
    simp [h1, hm] at hto
    rcases hok.2.2.2.2.2.2 with q | q
    · exact absurd q hto.2
    · exact ⟨q, hto.1⟩
  have hFn : r.metric ≠ 65535 → nextC F (famE r.ae) = [] ∨ famF (nextC F (famE r.ae)) = famE r.ae := fun hm => by
    have hp := (hFid hm).2
    have hf := famE_rng (ae := r.ae) (by omega)
    unfold nextC
    by_cases f0 : famE r.ae = 0
    · rw [if_pos f0, f0]
      rcases hok.2.2.2.2.1 with q | q
      · exact .inl q
      · right; unfold famF; rw [if_pos q]
    · rw [if_neg f0, show famE r.ae = 1 by omega]
      rcases hok.2.2.2.2.2.1 with q | q
      · exact .inl q
      · right; unfold famF; rw [if_neg (by omega), if_pos q]
  have e0 : ([] : Bs).length ≤ 400 := by decide
  have n0 : ([] : List Dest).length ≤ 1000 := by decide
  have has0 : IntKind.has .i64 0 := has64.2 (by omega)
  have hnl : (if r.metric = 65535 then ([] : Bs) else (if famE r.ae = 0 then F.next_c0 else F.next_c1)).length ≤ 400 := by
    split
    · exact e0
    · have := hok.2.2.2.2.1; have := hok.2.2.2.2.2.1
      split
      · rcases hok.2.2.2.2.1 with q | q
        · rw [q]; exact e0
        · omega
      · rcases hok.2.2.2.2.2.1 with q | q
        · rw [q]; exact e0
        · omega
  have hil : (if r.metric = 65535 then ([] : Bs) else F.id).length ≤ 400 := by
    split
    · exact e0
    · rcases hok.2.2.2.2.2.2 with q | q
      · rw [q]; exact e0
      · omega
  refine .inr ⟨updM F r a, rfl, ⟨rfl, ?_, rightB_of s1 s2, ?_, s5, s6, by rw [hmu]; omega, fun hm => ?_, fun hm => ?_⟩, ⟨⟨⟨n0, by show r.subs.length ≤ 1000; omega, e0, by show a.length ≤ 400; omega, hnl, hil, e0, e0, e0, (fun d h => by cases h), s1.few⟩, has0, has64.2 (by show _ ≤ r.interval ∧ r.interval ≤ _; omega), has64.2 (by show _ ≤ r.seq ∧ r.seq ≤ _; omega), has0, has64.2 (by show _ ≤ (11 : Int) ∧ (11 : Int) ≤ _; omega), has0, has64.2 (by show _ ≤ r.ae ∧ r.ae ≤ _; omega), has64.2 (by show _ ≤ r.plen ∧ r.plen ≤ _; omega), has0⟩, has0, has64.2 (by rw [hmu]; omega)⟩, by show sumN r.subs + 10 ≤ _; omega, rfl, fun hm => ?_⟩
  · have : bareOf (updM F r a) = some (updM F r a) := rfl
    rw [bareB, this]; exact eqB_refl _
  · exact inB_iff.2 ⟨hae, hl, ⟨hlow, s7.2⟩, hclean, hk⟩
  · have hm' : r.metric = 65535 := hm
    show (if r.metric = 65535 then [] else F.id) = [] ∧ (if r.metric = 65535 then [] else _) = []
    rw [if_pos hm', if_pos hm']; exact ⟨rfl, rfl⟩
  · have hm' : r.metric ≠ 65535 := hm
    show 0 < r.ae ∧ (if r.metric = 65535 then [] else F.id).length = 8 ∧ ((if r.metric = 65535 then [] else nextC F (famE r.ae)) = [] ∨ famF (if r.metric = 65535 then [] else nextC F (famE r.ae)) = famE r.ae)
    rw [if_neg hm', if_neg hm']
    exact ⟨(hFid hm').2, (hFid hm').1, hFn hm'⟩
  · have hm' : r.metric ≠ 65535 := hm
    show F.id = (if r.metric = 65535 then [] else F.id) ∧ nextC F (famE r.ae) = (if r.metric = 65535 then [] else nextC F (famE r.ae))
    rw [if_neg hm', if_neg hm']
    exact ⟨rfl, rfl⟩
end Go.VP
set_option linter.unusedVariables false
set_option linter.unusedSimpArgs false
set_option maxRecDepth 100000
namespace Go.VP
open Go Go.VI
def sizeB (b : Bs) : Int := bt b 2 * 256 + bt b 3
def bodyF (b : Bs) : Bs × Int × Int :=
  if 65535 < (b.length : Int) then ([], 65535, 10) else if (b.length : Int) < 4 then ([], b.length, 2)
  else if bt b 0 ≠ 42 then ([], 0, 4) else if bt b 1 ≠ 2 then ([], 1, 4)
  else if (b.length : Int) < 4 + sizeB b then ([], b.length, 2) else (cut_ b 4 (sizeB b), 0, 0)
theorem dq_body {R : Type} {p : Prop} [Decidable p] {t f r : R} (h : p → t = r) (h' : ¬ p → f = r) : (if decide p = true then t else f) = r := by
  by_cases hp : p
  · rw [ifd hp]; exact h hp
  · rw [ifn hp]; exact h' hp
theorem size_is {b : Bs} (h : 4 ≤ b.length) : g_frame_size (b, ()) = some ((sizeB b, ()), ()) := by
  have h2 := bt_rng b 2
  have h3 := bt_rng b 3
  rw [g_frame_size_eq, get_bt (i := 2) (by omega), Option.bind_some, get_bt (i := 3) (by omega), Option.bind_some, w64n, w64n]
  show some ((ibits .or .i64 (ishl .i64 (bt b 2) 8) (bt b 3), ()), ()) = _
  rw [ib_or (by omega) (by omega)]; rfl
theorem sizeB_rng (b : Bs) : 0 ≤ sizeB b ∧ sizeB b ≤ 65535 := by
  have h2 := bt_rng b 2
  have h3 := bt_rng b 3
  unfold sizeB; omega
theorem body_is (b : Bs) : g_frame_Body (b, ()) = some (trip (bodyF b), ()) := by
  have hr := sizeB_rng b
  rw [g_frame_Body_eq]; unfold bodyF
  refine dq_body (fun h => by rw [if_pos h]) (fun h1 => ?_)
  rw [if_neg h1]
  refine dq_body (fun h => by rw [if_pos h]) (fun h2 => ?_)
  rw [if_neg h2, get_bt (i := 0) (by omega), Option.bind_some]
  refine ne_step (fun h => by rw [if_pos (show bt b 0 ≠ 42 from h)]) (fun h3 => ?_)
  rw [if_neg (show ¬ bt b 0 ≠ 42 from fun q => q h3), get_bt (i := 1) (by omega), Option.bind_some]
  refine ne_step (fun h => by rw [if_pos (show bt b 1 ≠ 2 from h)]) (fun h4 => ?_)
  rw [if_neg (show ¬ bt b 1 ≠ 2 from fun q => q h4), size_is (by omega), Option.bind_some]
  dsimp only
  rw [w64 (by omega) (by omega)]
  refine dq_body (fun h => by rw [if_pos h]) (fun h5 => ?_)
  rw [if_neg h5, Option.bind_some]
  dsimp only
  rw [w64 (by omega) (by omega), if_pos (by omega)]; rfl
theorem rbody_is (b : Bs) : g_ref18_Body (b, ()) = some (trip (bodyF b), ()) := by
  have hr := sizeB_rng b
  have h2 := bt_rng b 2
  have h3 := bt_rng b 3
  rw [g_ref18_Body_eq]; unfold bodyF
  refine dq_body (fun h => by rw [if_pos h]) (fun h1 => ?_)
  rw [if_neg h1]
  refine dq_body (fun h => by rw [if_pos h]) (fun h2 => ?_)
  rw [if_neg h2, get_bt (i := 0) (by omega), Option.bind_some]
  refine ne_step (fun h => by rw [if_pos (show bt b 0 ≠ 42 from h)]) (fun h3 => ?_)
  rw [if_neg (show ¬ bt b 0 ≠ 42 from fun q => q h3), get_bt (i := 1) (by omega), Option.bind_some]
  refine ne_step (fun h => by rw [if_pos (show bt b 1 ≠ 2 from h)]) (fun h4 => ?_)
  rw [if_neg (show ¬ bt b 1 ≠ 2 from fun q => q h4), get_bt (i := 2) (by omega), Option.bind_some, get_bt (i := 3) (by omega), Option.bind_some, w64n, w64n]
  show (if decide ((b.length : Int) < (IntKind.wrap .i64 (4 + (IntKind.wrap .i64 ((IntKind.wrap .i64 (256 * bt b 2)) + bt b 3))))) = true then some ((([] : List UInt8), (b.length : Int), 2, ()), ()) else (if 0 ≤ (4 : Int) ∧ (4 : Int) ≤ (IntKind.wrap .i64 (4 + (IntKind.wrap .i64 ((IntKind.wrap .i64 (256 * bt b 2)) + bt b 3)))) ∧ (IntKind.wrap .i64 (4 + (IntKind.wrap .i64 ((IntKind.wrap .i64 (256 * bt b 2)) + bt b 3)))) ≤ (b.length : Int) then some ((((b.take (IntKind.wrap .i64 (4 + (IntKind.wrap .i64 ((IntKind.wrap .i64 (256 * bt b 2)) + bt b 3)))).toNat).drop 4), 0, 0, ()), ()) else none)) = _
  have e : IntKind.wrap .i64 (4 + (IntKind.wrap .i64 ((IntKind.wrap .i64 (256 * bt b 2)) + bt b 3))) = 4 + sizeB b := by
    rw [w64 (x := 256 * bt b 2) (by omega) (by omega), w64 (x := 256 * bt b 2 + bt b 3) (by omega) (by omega), w64 (by omega) (by omega)]
    unfold sizeB; omega
  rw [e]
  refine dq_body (fun h => by rw [if_pos h]) (fun h5 => ?_)
  rw [if_neg h5, if_pos (by omega)]; rfl
theorem bodyF_ok {b : Bs} (h : (bodyF b).2.2 = 0) : 4 ≤ b.length ∧ b.length ≤ 65535 ∧ bt b 0 = 42 ∧ bt b 1 = 2 ∧ 4 + sizeB b ≤ b.length ∧ bodyF b = (cut_ b 4 (sizeB b), 0, 0) ∧ ((bodyF b).1.length : Int) = sizeB b := by
  have hr := sizeB_rng b
  unfold bodyF at h ⊢
  split at h
  · cases h
  split at h
  · cases h
  split at h
  · cases h
  split at h
  · cases h
  split at h
  · cases h
  rename_i h1 h2 h3 h4 h5
  rw [if_neg h1, if_neg h2, if_neg h3, if_neg h4, if_neg h5]
  exact ⟨by omega, by omega, by simpa using h3, by simpa using h4, by omega, rfl, cut_length (by omega) (by omega) (by omega)⟩
theorem bodyF_bad {b : Bs} (h : (bodyF b).2.2 ≠ 0) : (bodyF b).1 = [] ∧ 0 ≤ (bodyF b).2.1 ∧ (bodyF b).2.1 ≤ b.length := by
  unfold bodyF at h ⊢
  split
  · exact ⟨rfl, by dsimp only; omega, by dsimp only; omega⟩
  split
  · exact ⟨rfl, by dsimp only; omega, by dsimp only; omega⟩
  split
  · exact ⟨rfl, by dsimp only; omega, by dsimp only; omega⟩
  split
  · exact ⟨rfl, by dsimp only; omega, by dsimp only; omega⟩
  split
  · exact ⟨rfl, by dsimp only; omega, by dsimp only; omega⟩
  · rename_i h1 h2 h3 h4 h5
    rw [if_neg h1, if_neg h2, if_neg h3, if_neg h4, if_neg h5] at h
    exact absurd rfl h
def behF (b : Bs) : Bs := b.drop (4 + sizeB b).toNat
theorem trailer_is {b : Bs} (h : (bodyF b).2.2 = 0) : g_frame_Trailer (b, ()) = some ((behF b, ()), ()) := by
  have hr := sizeB_rng b
  obtain ⟨h1, h2, _, _, h5, _⟩ := bodyF_ok h
  rw [g_frame_Trailer_eq, size_is h1, Option.bind_some]
  dsimp only
  rw [w64 (by omega) (by omega), if_pos (by omega)]; rfl
theorem rtrailer_is {b : Bs} (h : (bodyF b).2.2 = 0) : g_ref18_Trailer (b, ()) = some ((behF b, ()), ()) := by
  have hr := sizeB_rng b
  obtain ⟨h1, h2, _, _, h5, h6, h7⟩ := bodyF_ok h
  rw [g_ref18_Trailer_eq, rbody_is, Option.bind_some]
  dsimp only [trip]
  rw [h7, w64 (by omega) (by omega), if_pos (by omega)]; rfl
end Go.VP
set_option linter.unusedVariables false
set_option linter.unusedSimpArgs false
set_option maxRecDepth 100000
namespace Go.VP
open Go Go.VI
def Tg (t : Tlv) : Prop := (0 ≤ t.type_ ∧ t.type_ ≤ 255) ∧ t.data.length ≤ 255
theorem GoodL.small {m : Msg} (g : GoodL m) : Small m := by
  have := g.good.few.list; have := g.good.few.subs; exact ⟨by omega, by omega⟩
theorem one_right {c : Ctx} {t : Tlv} (hc : okC c) (ht : Tg t) : ∀ m ∈ (oneR c t.type_ t.data).2.1, LeanR m ∧ GoodL m := by
  obtain ⟨ty, at_, d⟩ := t
  obtain ⟨ht, hd⟩ := ht
  have hd : d.length ≤ 255 := hd
  have ht : 0 ≤ ty ∧ ty ≤ 255 := ht
  have has0 : IntKind.has .i64 0 := has64.2 (by omega)
  have mt : ∀ m : Msg, FieldR m ∨ RouteR m → m.type_ = 0 ∧ m.metric = 0 := fun m h => by
    have key : ∀ x, bareB m = true → bareOf m = some x → x.type_ = 0 ∧ x.metric = 0 → m.type_ = 0 ∧ m.metric = 0 := fun x hb hx h0 => by
      rw [bareB, hx] at hb
      have := eqB_true.1 hb
      rw [← this]; exact h0
    rcases h with h | h
    · rcases h.kinds with hk | hk | ⟨hk, _⟩ | ⟨hk, _⟩
      · exact key _ h.bare (by unfold bareOf; rw [hk]; rfl) ⟨rfl, rfl⟩
      · exact key _ h.bare (by unfold bareOf; rw [hk]; rfl) ⟨rfl, rfl⟩
      · exact key _ h.bare (by unfold bareOf; rw [hk]; rfl) ⟨rfl, rfl⟩
      · exact key _ h.bare (by unfold bareOf; rw [hk]; rfl) ⟨rfl, rfl⟩
    · rcases h.kinds with hk | ⟨hk, _⟩
      · exact key _ h.bare (by unfold bareOf; rw [hk]; rfl) ⟨rfl, rfl⟩
      · exact key _ h.bare (by unfold bareOf; rw [hk]; rfl) ⟨rfl, rfl⟩
  intro m hm
  dsimp only at hm
  unfold oneR at hm
  split at hm
  · cases hm
  split at hm
  · unfold stepC at hm
    split at hm
    · cases hm
    split at hm
    · cases hm
    split at hm
    · rcases updF_cases (d := d) hc (by omega) with h | ⟨x, h, hu, hg, _⟩
      · rw [h] at hm; cases hm
      · rw [h, List.mem_singleton] at hm; subst hm; exact ⟨.upd hu, hg⟩
    · cases hm
  split at hm
  · rename_i h25
    rcases fieldG_cases (ty := ty) (d := d) h25 (by omega) with ⟨x, h, hr, hg, _⟩ | ⟨e, h⟩
    · rw [h] at hm
      have : m = x := by unfold resF at hm; simpa using hm
      subst this
      have := mt m (.inl hr)
      exact ⟨.field hr, ⟨hg, by rw [this.1]; exact has0, by rw [this.2]; exact has0⟩⟩
    · rw [h] at hm
      unfold resF at hm
      split at hm
      · cases hm
      · cases hm
  split at hm
  · rename_i h910
    rcases routeG_cases (ty := ty) (d := d) h910 (by omega) with ⟨x, h, hr, hg, _⟩ | ⟨e, h⟩
    · rw [h] at hm
      have : m = x := by unfold resF at hm; simpa using hm
      subst this
      have := mt m (.inr hr)
      exact ⟨.route hr, ⟨hg, by rw [this.1]; exact has0, by rw [this.2]; exact has0⟩⟩
    · rw [h] at hm
      unfold resF at hm
      split at hm
      · cases hm
      · cases hm
  · rw [List.mem_singleton] at hm
    subst hm
    have e0 : ([] : Bs).length ≤ 400 := by decide
    have n0 : ([] : List Dest).length ≤ 1000 := by decide
    have hb : bareOf (opaqueM ty d) = some (opaqueM ty d) := rfl
    refine ⟨.opq ⟨rfl, by rw [bareB, hb]; exact eqB_refl _, by show 10 < ty ∧ ty < 256; omega, by show d.length < 256; omega⟩, ⟨⟨⟨n0, by show 0 ≤ 1000; omega, e0, e0, e0, e0, e0, e0, by show d.length ≤ 400; omega, (fun d h => by cases h), (fun d h => by cases h)⟩, has0, has0, has0, has0, has64.2 (by show _ ≤ (14 : Int) ∧ (14 : Int) ≤ _; omega), has0, has0, has0, has0⟩, has64.2 (by show _ ≤ ty ∧ ty ≤ _; omega), has0⟩⟩
theorem fold_right {l : List Tlv} {c : Ctx} (hc : okC c) (hl : ∀ t ∈ l, Tg t) : ∀ m ∈ (foldR c l []).1, LeanR m ∧ GoodL m :=
  foldR_all (P := fun m => LeanR m ∧ GoodL m) (Q := Tg) (fun c t hc ht => one_right hc ht) l c [] hc hl (fun m hm => by cases hm)
theorem spl_tg (s : Bs) : ∀ (p : Int) (l : List Tlv), spl p s = .ok l → ∀ t ∈ l, Tg t := by
  induction h : s.length using Nat.strongRecOn generalizing s with
  | ind n ih =>
    intro p l hs
    subst h
    match s, hs with
    | [], hs => rw [spl_nil] at hs; cases hs; intro t ht; cases ht
    | t :: r, hs =>
      by_cases ht : t = 0
      · subst ht
        rw [spl_zero] at hs
        cases hr : spl (p + 1) r with
        | error q => rw [hr] at hs; cases hs
        | ok lr =>
          rw [hr] at hs; cases hs
          intro x hx
          rcases List.mem_cons.1 hx with rfl | hx
          · exact ⟨by show (0 : Int) ≤ 0 ∧ (0 : Int) ≤ 255; omega, by show 0 ≤ 255; omega⟩
          · exact ih r.length (by simp) r rfl _ lr hr x hx
      · match r, hs with
        | [], hs => rw [spl_one ht] at hs; cases hs
        | n :: d, hs =>
          by_cases hn : d.length < n.toNat
          · rw [spl_bad ht hn] at hs; cases hs
          · rw [spl_all ht (by omega)] at hs
            cases hr : spl (p + 2 + n.toNat) (d.drop n.toNat) with
            | error q => rw [hr] at hs; cases hs
            | ok lr =>
              rw [hr] at hs; cases hs
              intro x hx
              rcases List.mem_cons.1 hx with rfl | hx
              · have h1 := t.toNat_lt
                have h2 := n.toNat_lt
                refine ⟨by show (0 : Int) ≤ (t.toNat : Int) ∧ (t.toNat : Int) ≤ 255; omega, ?_⟩
                show (d.take n.toNat).length ≤ 255
                rw [List.length_take]; omega
              · exact ih (d.drop n.toNat).length (by simp; omega) (d.drop n.toNat) rfl _ lr hr x hx
def parseI (b : Bs) : List Msg × Int × Int :=
  if (bodyF b).2.2 ≠ 0 then ([], (bodyF b).2.1, (bodyF b).2.2)
  else match spl 4 (bodyF b).1 with
    | .error q => ([], q, 2)
    | .ok l => match spl (4 + ((bodyF b).1.length : Int)) (behF b) with
      | .error q => ([], q, 2)
      | .ok _ => ((foldR c0 l []).1, (foldR c0 l []).2.2.1, (foldR c0 l []).2.2.2)
theorem parse_core {b : Bs} {B : Option ((Bs × Int × Int × Unit) × Unit)} {S1 S2 : Bs → Int → Option ((List Tlv × Int × Int × Unit) × Unit)} {T : Option ((Bs × Unit) × Unit)} {F : List Tlv → Option ((List Msg × Ctx × Int × Int × Unit) × Unit)}
    (hB : B = some (trip (bodyF b), ())) (hS1 : ∀ s p, s.length ≤ 1000000000 → 0 ≤ p ∧ p ≤ 1152921504606846976 → S1 s p = some (trip (splOut [] (spl p s)), ())) (hS2 : ∀ s p, s.length ≤ 1000000000 → 0 ≤ p ∧ p ≤ 1152921504606846976 → S2 s p = some (trip (splOut [] (spl p s)), ()))
    (hT : (bodyF b).2.2 = 0 → T = some ((behF b, ()), ()))
    (hF : ∀ l : List Tlv, l.length ≤ 100000 → (∀ t ∈ l, t.data.length ≤ 1000) → F l = some (((foldR c0 l []).1, (foldR c0 l []).2.1, (foldR c0 l []).2.2.1, (foldR c0 l []).2.2.2, ()), ())) :
    (B.bind fun r1 => (if (r1.1.2.2.1 != 0) = true then (some (([], r1.1.2.1, r1.1.2.2.1, ()), ()) : Option ((List Msg × Int × Int × Unit) × Unit)) else ((S1 r1.1.1 4).bind fun r2 => (if (r2.1.2.2.1 != 0) = true then some (([], r2.1.2.1, r2.1.2.2.1, ()), ()) else (T.bind fun r3 => ((S2 r3.1.1 (IntKind.wrap .i64 (4 + (r1.1.1.length : Int)))).bind fun r4 => (if (r4.1.2.2.1 != 0) = true then some (([], r4.1.2.1, r4.1.2.2.1, ()), ()) else ((F r2.1.1).bind fun r5 => some ((r5.1.1, r5.1.2.2.1, r5.1.2.2.2.1, ()), ()))))))))) = some (trip (parseI b), ()) := by
  rw [hB, Option.bind_some]
  unfold parseI
  dsimp only [trip]
  refine ne_step (fun h => by rw [if_pos h]) (fun h => ?_)
  obtain ⟨l1, l2, _, _, l5, _, l7⟩ := bodyF_ok h
  have hr := sizeB_rng b
  have hbl : (behF b).length ≤ 100000 := by unfold behF; rw [List.length_drop]; omega
  have hsl : (bodyF b).1.length ≤ 65535 := by omega
  rw [if_neg (show ¬ (bodyF b).2.2 ≠ 0 from fun q => q h), hS1 _ _ (by omega) (by omega), Option.bind_some]
  cases h1 : spl 4 (bodyF b).1 with
  | error q => rfl
  | ok l =>
    have hk := spl_ok _ _ _ h1
    dsimp only [trip, splOut]
    refine ne_step (fun q => absurd rfl q) (fun _ => ?_)
    rw [hT h, Option.bind_some]
    dsimp only
    rw [w64 (by omega) (by omega), hS2 _ _ (by omega) (by omega), Option.bind_some]
    cases h2 : spl (4 + ((bodyF b).1.length : Int)) (behF b) with
    | error q => rfl
    | ok l2 =>
      dsimp only [trip, splOut]
      refine ne_step (fun q => absurd rfl q) (fun _ => ?_)
      rw [List.nil_append, hF l (by omega) (fun t ht => by have := hk.1 t ht; omega)]
      rfl
theorem iparse_is (b : Bs) : g_intake_Parse (b, ()) = some (trip (parseI b), ()) := by
  rw [g_intake_Parse_eq]
  exact parse_core (b := b) (S1 := fun s p => g_frame_Split (s, p, ())) (S2 := fun s p => g_frame_Split (s, p, ())) (F := fun l => g_intake_Fold (l, ())) (body_is b) (fun s p h h2 => split_is h h2) (fun s p h h2 => split_is h h2) (fun h => trailer_is h) (fun l h h2 => fold_is h h2)
theorem riparse_is (b : Bs) : g_ref23_Parse (b, ()) = some (trip (parseI b), ()) := by
  rw [g_ref23_Parse_eq]
  exact parse_core (b := b) (S1 := fun s p => g_ref18_Split (s, p, ())) (S2 := fun s p => g_ref18_Split (s, p, ())) (F := fun l => g_ref23_Fold (l, ())) (rbody_is b) (fun s p h h2 => rsplit_is h h2) (fun s p h h2 => rsplit_is h h2) (fun h => rtrailer_is h) (fun l h h2 => rfold_is h h2)
theorem parseI_cases (b : Bs) : ((parseI b).2.2 ≠ 0 ∧ (parseI b).1 = []) ∨ ∃ l, (bodyF b).2.2 = 0 ∧ spl 4 (bodyF b).1 = .ok l ∧ (∃ k, spl (4 + ((bodyF b).1.length : Int)) (behF b) = .ok k) ∧ (foldR c0 l []).2.2.2 = 0 ∧ parseI b = ((foldR c0 l []).1, 0, 0) := by
  unfold parseI
  by_cases h : (bodyF b).2.2 ≠ 0
  · rw [if_pos h]; exact .inl ⟨h, rfl⟩
  rw [if_neg h]
  cases h1 : spl 4 (bodyF b).1 with
  | error q => exact .inl ⟨by simp, rfl⟩
  | ok l =>
    cases h2 : spl (4 + ((bodyF b).1.length : Int)) (behF b) with
    | error q => exact .inl ⟨by simp, rfl⟩
    | ok k =>
      dsimp only
      by_cases h3 : (foldR c0 l []).2.2.2 = 0
      · exact .inr ⟨l, by simpa using h, rfl, ⟨k, rfl⟩, h3, by rw [foldR_fine l c0 [] h3, h3]⟩
      · exact .inl ⟨h3, (foldR_err l c0 [] h3).1⟩
theorem parseI_right (b : Bs) : (∀ m ∈ (parseI b).1, LeanR m ∧ GoodL m) ∧ (parseI b).1.length ≤ 65535 := by
  rcases parseI_cases b with ⟨_, h⟩ | ⟨l, h0, h1, _, _, h4⟩
  · rw [h]; exact ⟨fun m hm => (by cases hm), by simp⟩
  · rw [h4]
    have hb := (bodyF_ok h0)
    have hr := sizeB_rng b
    have := (foldR_len l c0 [] okC_c0).1
    have hk := (spl_ok _ _ _ h1).2
    exact ⟨fold_right okC_c0 (spl_tg _ _ _ h1), by dsimp only; simp at this; omega⟩
end Go.VP
set_option linter.unusedVariables false
set_option linter.unusedSimpArgs false
set_option maxRecDepth 100000
namespace Go.VP
open Go Go.VI
noncomputable def opqB (m : Msg) : Bool := bareB m && (decide (10 < m.type_) && (decide (m.type_ < 256) && decide (m.data.length < 256)))
noncomputable def leanB (m : Msg) : Bool := if m.kind = 11 then updB m else if m.kind = 12 ∨ m.kind = 13 then routeB m else if m.kind = 14 then opqB m else fieldB m
theorem fieldB_kind {m : Msg} (h : fieldB m = true) : 7 ≤ m.kind ∧ m.kind ≤ 10 := by
  rcases (fieldR_iff.1 h).kinds with h | h | ⟨h, _⟩ | ⟨h, _⟩ <;> omega
theorem routeB_kind {m : Msg} (h : routeB m = true) : m.kind = 12 ∨ m.kind = 13 := by
  rcases (routeR_iff.1 h).kinds with h | ⟨h, _⟩
  · exact .inl h
  · exact .inr h
theorem opqR_iff {m : Msg} (hk : m.kind = 14) : opqB m = true ↔ OpqR m := by
  unfold opqB
  simp only [Bool.and_eq_true, decide_eq_true_eq]
  exact ⟨fun ⟨a, b, c, d⟩ => ⟨hk, a, ⟨b, c⟩, d⟩, fun h => ⟨h.bare, h.ty.1, h.ty.2, h.len⟩⟩
theorem leanR_iff {m : Msg} : leanB m = true ↔ LeanR m := by
  unfold leanB
  constructor
  · intro h
    split at h
    · exact .upd (updR_iff.1 h)
    split at h
    · exact .route (routeR_iff.1 h)
    split at h
    · rename_i hk; exact .opq ((opqR_iff hk).1 h)
    · exact .field (fieldR_iff.1 h)
  · intro h
    cases h with
    | field h =>
      have hb := fieldR_iff.2 h
      have := fieldB_kind hb
      rw [if_neg (by omega), if_neg (by omega), if_neg (by omega)]; exact hb
    | route h =>
      have hb := routeR_iff.2 h
      have := routeB_kind hb
      rw [if_neg (by omega), if_pos this]; exact hb
    | upd h => rw [if_pos h.kind]; exact updR_iff.2 h
    | opq h => rw [if_neg (by have := h.kind; omega), if_neg (by have := h.kind; omega), if_pos h.kind]; exact (opqR_iff h.kind).2 h
theorem UpdR.fam {m : Msg} (h : UpdR m) (hm : m.metric ≠ 65535) : (famE m.ae = 0 ∨ famE m.ae = 1) ∧ (m.next ≠ [] → (famE m.ae = 0 ∧ m.next.length = 4) ∨ (famE m.ae = 1 ∧ m.next.length = 16)) := by
  have hn := h.near hm
  have hf := famE_rng (ae := m.ae) (by have := h.pre.1; omega)
  refine ⟨by omega, fun hne => ?_⟩
  exact famF_cases (by rcases hn.2.2 with q | q; exact absurd q hne; exact q) (by omega)
end Go.VP
set_option linter.unusedVariables false
set_option linter.unusedSimpArgs false
set_option maxRecDepth 100000
namespace Go.VP
open Go Go.VI
theorem OpqR.eq {m : Msg} (h : OpqR m) : opaqueM m.type_ m.data = m := by
  have hx : bareOf m = some ⟨m.kind, 0, 0, [], 0, 0, [], 0, 0, [], 0, [], 0, 0, 0, 0, 0, 0, 0, [], [], [], m.type_, m.data, []⟩ := by
    have hk := h.kind
    unfold bareOf; rw [if_neg (by omega), if_neg (by omega), if_neg (by omega), if_neg (by omega), if_neg (by omega), if_neg (by omega), if_neg (by omega), if_neg (by omega), if_neg (by omega), if_neg (by omega), if_neg (by omega), if_neg (by omega), if_neg (by omega), if_pos hk]
  have hb := h.bare
  rw [bareB, hx] at hb
  have := eqB_true.1 hb
  rw [h.kind] at this
  exact this
end Go.VP
set_option linter.unusedVariables false
set_option linter.unusedSimpArgs false
set_option maxRecDepth 100000
namespace Go.VP
open Go Go.VI
def zeroB (s : Bs) : Bool := s.all (· == 0)
theorem zero_loop {n : Nat} {s : Bs} (hs : s.length ≤ 1000000000) : ∀ (d m i : Nat), i + d = s.length → d < m → L_octet_Zero_0 n m s i = some (((s.drop i).all (· == 0), ()), ()) := by
  intro d
  induction d with
  | zero =>
    intro m i hd hm
    obtain ⟨m, rfl⟩ : ∃ k, m = k + 1 := ⟨m - 1, by omega⟩
    rw [L_octet_Zero_0_eq, ifn (by omega), List.drop_eq_nil_of_le (by omega)]; rfl
  | succ d ih =>
    intro m i hd hm
    obtain ⟨m, rfl⟩ : ∃ k, m = k + 1 := ⟨m - 1, by omega⟩
    have ha : i < s.length := by omega
    have := ih m (i + 1) (by omega) (by omega)
    rw [show ((i + 1 : Nat) : Int) = (i : Int) + 1 by omega] at this
    rw [L_octet_Zero_0_eq, ifd (by omega), if_pos (by omega), Int.toNat_natCast, bind_at ha, w64 (by omega) (by omega), this, List.drop_eq_getElem_cons ha, List.all_cons]
    refine ne_step (fun h => ?_) (fun h => ?_)
    · have : (s[i] == 0) = false := by
        rw [beq_eq_false_iff_ne]; intro e; rw [e] at h; exact h rfl
      rw [this]; rfl
    · have : s[i] = 0 := u8_eq h
      rw [this]; simp
theorem zero_is {s : Bs} (hs : s.length ≤ 1000000000) : g_octet_Zero (s, ()) = some ((zeroB s, ()), ()) := by
  show h_octet_Zero fuel (s, ()) = _
  rw [h_octet_Zero_eq]
  exact zero_loop hs s.length fuel 0 (by omega) (fuel_ge (by omega))
abbrev z4 : Bs := [0, 0, 0, 0]
theorem zero4 {s : Bs} (h : s.length = 4) : zeroB s = true ↔ s = z4 := by
  match s, h with
  | [a, b, c, d], _ => simp [zeroB]
theorem zero8 {s t : Bs} (h : s.length = 4) (h' : t.length = 4) : zeroB (s ++ t) = true ↔ s = z4 ∧ t = z4 := by
  rw [← zero4 h, ← zero4 h']; simp [zeroB, List.all_append]
theorem nought_is : g_ref10_nought () = some ((z4, ()), ()) := g_ref10_nought_eq
def entF (s : Bs) : S_api_Entry := ⟨num (cut_ s 0 2), num (cut_ s 2 2), cut_ s 4 4, cut_ s 8 4, cut_ s 12 4, num (cut_ s 16 4)⟩
theorem rnum_ok {s : Bs} {p q n : Int} (w : WfC s p q) (h : 1 ≤ n) (h7 : n ≤ 7) (h2 : p + n ≤ q) : g_entry_reader_num (⟨s, p, q, false⟩, n, ()) = some ((num (cut_ s p n), ()), (⟨s, p + n, q, false⟩, ())) := by
  rw [g_entry_reader_num_eq]
  have := num_ok w h h7 h2
  unfold cu at this
  dsimp only
  rw [this]; rfl
theorem rfour_ok {s : Bs} {p q : Int} (w : WfC s p q) (h2 : p + 4 ≤ q) : g_entry_reader_four (⟨s, p, q, false⟩, ()) = some ((cut_ s p 4, ()), (⟨s, p + 4, q, false⟩, ())) := by
  rw [g_entry_reader_four_eq]
  have := text_ok (n := 4) w (by omega) h2
  unfold cu at this
  dsimp only
  rw [this]; rfl
theorem entGet_is {s : Bs} (h : s.length = 20) : g_entry_Get (s, ()) = some ((entF s, true, ()), ()) := by
  have w := WfC.whole (s := s) (by omega)
  rw [g_entry_Get_eq, if_neg (by simp [h]), new_is, Option.bind_some]
  dsimp only [cu]
  rw [rnum_ok w (by omega) (by omega) (by omega), Option.bind_some]
  dsimp only
  rw [rnum_ok (w.fwd (by omega) (by omega)) (by omega) (by omega) (by omega), Option.bind_some]
  dsimp only
  rw [rfour_ok ((w.fwd (n := 2) (by omega) (by omega)).fwd (by omega) (by omega)) (by omega), Option.bind_some]
  dsimp only
  rw [rfour_ok (((w.fwd (n := 2) (by omega) (by omega)).fwd (n := 2) (by omega) (by omega)).fwd (by omega) (by omega)) (by omega), Option.bind_some]
  dsimp only
  rw [rfour_ok ((((w.fwd (n := 2) (by omega) (by omega)).fwd (n := 2) (by omega) (by omega)).fwd (n := 4) (by omega) (by omega)).fwd (by omega) (by omega)) (by omega), Option.bind_some]
  dsimp only
  rw [rnum_ok (((((w.fwd (n := 2) (by omega) (by omega)).fwd (n := 2) (by omega) (by omega)).fwd (n := 4) (by omega) (by omega)).fwd (n := 4) (by omega) (by omega)).fwd (by omega) (by omega)) (by omega) (by omega) (by omega), Option.bind_some]
  rfl
theorem rentGet_is {s : Bs} (h : s.length = 20) : g_ref08_Get (s, ()) = some ((entF s, true, ()), ()) := by
  rw [g_ref08_Get_eq, if_neg (by simp [h]), if_pos (by omega), number_is (by simp; omega), Option.bind_some, if_pos (by omega), number_is (by simp; omega), Option.bind_some, if_pos (by omega), if_pos (by omega), if_pos (by omega), if_pos (by omega), number_is (by simp; omega), Option.bind_some]
  have e : s.drop 16 = cut_ s 16 4 := by unfold cut_; rw [List.take_of_length_le (by simp; omega)]; rfl
  have e2 : s.take 2 = cut_ s 0 2 := by unfold cut_; simp
  rw [e, e2]; rfl
def maskF (n : Int) : Bs := keepF [255, 255, 255, 255] n
theorem maskF_key : ∀ k : Fin 33, ([(u8of (IntKind.wrap .u8 (ishr .u32 (ishl .u32 4294967295 (IntKind.wrap .u64 (IntKind.wrap .i64 (32 - (k.val : Int))))) 24))), (u8of (IntKind.wrap .u8 (ishr .u32 (ishl .u32 4294967295 (IntKind.wrap .u64 (IntKind.wrap .i64 (32 - (k.val : Int))))) 16))), (u8of (IntKind.wrap .u8 (ishr .u32 (ishl .u32 4294967295 (IntKind.wrap .u64 (IntKind.wrap .i64 (32 - (k.val : Int))))) 8))), (u8of (IntKind.wrap .u8 (ishl .u32 4294967295 (IntKind.wrap .u64 (IntKind.wrap .i64 (32 - (k.val : Int)))))))] : Bs) = maskF k.val := by decide +kernel
theorem fin33 {n : Int} (h : 0 ≤ n) (h' : n ≤ 32) : ∃ k : Fin 33, n = (k.val : Int) := ⟨⟨n.toNat, by omega⟩, by simp; omega⟩
theorem maskOf_is {n : Int} (h : 0 ≤ n) (h' : n ≤ 32) : g_mask_Of (n, ()) = some ((maskF n, true, ()), ()) := by
  obtain ⟨k, rfl⟩ := fin33 h h'
  rw [g_mask_Of_eq, ifn (by omega), ifn (by omega), if_pos (by rw [w64 (by omega) (by omega), wu64 (by omega) (by omega)]; omega), maskF_key k]
theorem maskOf_bad {n : Int} (h : n < 0 ∨ 32 < n) : g_mask_Of (n, ()) = some (([], false, ()), ()) := by
  rw [g_mask_Of_eq]
  by_cases h0 : n < 0
  · rw [ifd h0]
  · rw [ifn h0, ifd (by omega)]
theorem rmaskOf_is {n : Int} (h : 0 ≤ n) (h' : n ≤ 32) : g_ref05_Of (n, ()) = some ((maskF n, true, ()), ()) := by
  rw [g_ref05_Of_eq, ifn (by omega), ifn (by omega), rkeep_is (by simp), Option.bind_some]; rfl
def plenGo (s : Bs) : Nat → Nat → Int × Bool
  | 0, _ => (0, false)
  | d + 1, k => if maskF k = s then ((k : Int), true) else plenGo s d (k + 1)
def plenF (s : Bs) : Int × Bool := plenGo s 33 0
theorem rplen_loop {n : Nat} {s : Bs} : ∀ (d m k : Nat), k + d = 33 → d < m → L_ref05_Plen_0 n m s k = some (((plenGo s d k).1, (plenGo s d k).2, ()), ()) := by
  intro d
  induction d with
  | zero =>
    intro m k hk hm
    obtain ⟨m, rfl⟩ : ∃ k, m = k + 1 := ⟨m - 1, by omega⟩
    rw [L_ref05_Plen_0_eq, ifn (by omega)]; rfl
  | succ d ih =>
    intro m k hk hm
    obtain ⟨m, rfl⟩ : ∃ k, m = k + 1 := ⟨m - 1, by omega⟩
    have := ih m (k + 1) (by omega) (by omega)
    rw [show ((k + 1 : Nat) : Int) = (k : Int) + 1 by omega] at this
    rw [L_ref05_Plen_0_eq, ifd (by omega), rmaskOf_is (by omega) (by omega), Option.bind_some, w64 (by omega) (by omega), this, plenGo]
    by_cases h : maskF k = s
    · rw [if_pos (by simp [h]), if_pos h]
    · rw [if_neg (by simpa using h), if_neg h]
theorem rplen_is {s : Bs} : g_ref05_Plen (s, ()) = some (((plenF s).1, (plenF s).2, ()), ()) := by
  show h_ref05_Plen fuel (s, ()) = _
  rw [h_ref05_Plen_eq]
  exact rplen_loop 33 fuel 0 (by omega) (fuel_ge (by omega))
theorem plenGo_cases (s : Bs) : ∀ (d k : Nat), (∃ j : Nat, k ≤ j ∧ j < k + d ∧ plenGo s d k = ((j : Int), true) ∧ maskF j = s) ∨ (plenGo s d k = (0, false) ∧ ∀ j : Nat, k ≤ j → j < k + d → maskF j ≠ s)
  | 0, k => .inr ⟨rfl, fun j h1 h2 => by omega⟩
  | d + 1, k => by
    by_cases h : maskF k = s
    · exact .inl ⟨k, by omega, by omega, by rw [plenGo, if_pos h], h⟩
    · rcases plenGo_cases s d (k + 1) with ⟨j, h1, h2, h3, h4⟩ | ⟨h3, h4⟩
      · exact .inl ⟨j, by omega, by omega, by rw [plenGo, if_neg h, h3], h4⟩
      · refine .inr ⟨by rw [plenGo, if_neg h, h3], fun j h1 h2 => ?_⟩
        by_cases e : j = k
        · rw [e]; exact h
        · exact h4 j (by omega) (by omega)
theorem plenF_cases (s : Bs) : (∃ k : Fin 33, plenF s = ((k.val : Int), true) ∧ maskF k.val = s) ∨ (plenF s = (0, false) ∧ ∀ j : Nat, j < 33 → maskF j ≠ s) := by
  rcases plenGo_cases s 33 0 with ⟨j, _, h2, h3, h4⟩ | ⟨h3, h4⟩
  · exact .inl ⟨⟨j, by omega⟩, h3, h4⟩
  · exact .inr ⟨h3, fun j h => h4 j (by omega) (by omega)⟩
theorem len32_pow : ∀ j : Fin 33, g_math_bits_Len32 (2 ^ j.val - 1, ()) = some (((j.val : Int), ()), ()) := by
  intro j
  rw [g_math_bits_Len32_eq]
  revert j
  decide +kernel
theorem u8wR (x : Int) : 0 ≤ IntKind.wrap .u8 x ∧ (IntKind.wrap .u8 x).toNat < 256 := by rw [wu8]; omega
theorem len32_any (x : Int) : ∃ r, g_math_bits_Len32 (x, ()) = some ((r, ()), ()) := by
  rw [g_math_bits_Len32_eq]
  split <;> split <;>
  · rw [if_pos (u8wR _).1, List.getElem?_eq_getElem (u8wR _).2, Option.bind_some]
    exact ⟨_, rfl⟩
theorem argKey : ∀ k : Fin 33, ibits .xor .u32 (4294967295) (ibits .or .u32 (ibits .or .u32 (ibits .or .u32 (ishl .u32 (IntKind.wrap .u32 ((((maskF k.val)[0]?.getD 0).toNat : Nat) : Int)) 24) (ishl .u32 (IntKind.wrap .u32 ((((maskF k.val)[1]?.getD 0).toNat : Nat) : Int)) 16)) (ishl .u32 (IntKind.wrap .u32 ((((maskF k.val)[2]?.getD 0).toNat : Nat) : Int)) 8)) (IntKind.wrap .u32 ((((maskF k.val)[3]?.getD 0).toNat : Nat) : Int))) = 2 ^ (32 - k.val) - 1 := by decide +kernel
theorem plen_is {s : Bs} (h : s.length = 4) : g_mask_Plen (s, ()) = some (((plenF s).1, (plenF s).2, ()), ()) := by
  rw [g_mask_Plen_eq, if_neg (by simp [h]), get_bt (i := 0) (by omega), Option.bind_some, get_bt (i := 1) (by omega), Option.bind_some, get_bt (i := 2) (by omega), Option.bind_some, get_bt (i := 3) (by omega), Option.bind_some]
  rcases plenF_cases s with ⟨k, e, rfl⟩ | ⟨e, hn⟩
  · rw [argKey k, g_math_bits_LeadingZeros32_eq]
    have := len32_pow ⟨32 - k.val, by omega⟩
    dsimp only at this
    rw [this, Option.bind_some, Option.bind_some]
    dsimp only
    have hk := k.isLt
    rw [w64 (by omega) (by omega), show (32 : Int) - ((32 - k.val : Nat) : Int) = k.val by omega, maskOf_is (by omega) (by omega), Option.bind_some]
    dsimp only
    rw [if_neg (by simp), e]
  · rw [g_math_bits_LeadingZeros32_eq]
    obtain ⟨r, hr⟩ := len32_any (ibits .xor .u32 (4294967295) (ibits .or .u32 (ibits .or .u32 (ibits .or .u32 (ishl .u32 (IntKind.wrap .u32 (((s[0]?.getD 0).toNat : Nat) : Int)) 24) (ishl .u32 (IntKind.wrap .u32 (((s[1]?.getD 0).toNat : Nat) : Int)) 16)) (ishl .u32 (IntKind.wrap .u32 (((s[2]?.getD 0).toNat : Nat) : Int)) 8)) (IntKind.wrap .u32 (((s[3]?.getD 0).toNat : Nat) : Int))))
    rw [hr, Option.bind_some, Option.bind_some]
    dsimp only
    generalize IntKind.wrap .i64 (32 - r) = x
    by_cases hx : x < 0 ∨ 32 < x
    · rw [maskOf_bad hx, Option.bind_some]
      dsimp only
      rw [if_pos (by cases s with | nil => simp at h | cons => rfl), e]
    · rw [maskOf_is (by omega) (by omega), Option.bind_some]
      dsimp only
      have : maskF x ≠ s := by
        have := hn x.toNat (by omega)
        rwa [show ((x.toNat : Nat) : Int) = x by omega] at this
      rw [if_pos (by simpa using this), e]
theorem plenF_ok {s : Bs} (h : (plenF s).2 = true) : 0 ≤ (plenF s).1 ∧ (plenF s).1 ≤ 32 ∧ maskF (plenF s).1 = s := by
  rcases plenF_cases s with ⟨k, e, hk⟩ | ⟨e, _⟩
  · rw [e]; have := k.isLt; exact ⟨by simp, by simp; omega, hk⟩
  · rw [e] at h; cases h
end Go.VP
set_option linter.unusedVariables false
set_option linter.unusedSimpArgs false
set_option maxRecDepth 100000
namespace Go.VP
open Go Go.VI
def okR (m : Msg) : Prop := m.kind = 1 ∧ bareB m = true ∧ (m.cmd = 1 ∨ m.cmd = 2) ∧ (m.ver = 1 ∨ m.ver = 2) ∧ m.prefix_.length = 4 ∧ m.next.length = 4 ∧ (m.auth = [] ∨ (m.ver = 2 ∧ m.auth.length = 18)) ∧
  ((m.family = 0 ∧ m.cmd = 1 ∧ m.tag = 0 ∧ m.plen = 0 ∧ m.prefix_ = z4 ∧ m.next = z4 ∧ m.metric = 16) ∨
   (m.family = 2 ∧ 1 ≤ m.metric ∧ m.metric ≤ 16 ∧
     ((m.ver = 1 ∧ m.tag = 0 ∧ m.plen = 32 ∧ m.next = z4) ∨ (m.ver = 2 ∧ 0 ≤ m.tag ∧ m.tag ≤ 65535 ∧ 0 ≤ m.plen ∧ m.plen ≤ 32 ∧ cleanB m.prefix_ m.plen = true))))
open Classical in
noncomputable def rightR (m : Msg) : Bool := decide (okR m)
theorem rightR_true {m : Msg} : rightR m = true ↔ okR m := by unfold rightR; simp
structure RM (m : Msg) : Prop where
  tag : IntKind.has .i64 m.tag
  plen : IntKind.has .i64 m.plen
  list : m.list.length ≤ 1000000000
  subs : m.subs.length ≤ 1000000000
theorem dq_step {R : Type} {p : Prop} [Decidable p] {t f r : R} (h : p → t = r) (h' : ¬ p → f = r) : (if decide p = true then t else f) = r := by
  by_cases hp : p
  · rw [ifd hp]; exact h hp
  · rw [ifn hp]; exact h' hp
theorem nb_step {R : Type} {b : Bool} {t f r : R} (h : b = false → t = r) (h' : b = true → f = r) : (if (!b) = true then t else f) = r := by
  cases b
  · exact h rfl
  · exact h' rfl
theorem be_stepR {R : Type} {x y : Bs} {f t r : R} (heq : x = y → t = r) (hne : x ≠ y → f = r) : (if (x == y) = true then t else f) = r := by
  by_cases h : x = y
  · rw [if_pos (by simp [h])]; exact heq h
  · rw [if_neg (by simpa using h)]; exact hne h
theorem two_step {R : Type} {x a b : Int} {F V r : R} (h1 : ¬ (x = a ∨ x = b) → F = r) (h2 : (x = a ∨ x = b) → V = r) : (if (x != a) = true then (if (x != b) = true then F else V) else V) = r :=
  ne_step (fun ha => ne_step (fun hb => h1 (by omega)) (fun hb => h2 (.inr hb))) (fun ha => h2 (.inl ha))
theorem au_step {R : Type} {s : Bs} {v : Int} {F T r : R} (h1 : ¬ (s = [] ∨ (v ≠ 1 ∧ s.length = 18)) → F = r) (h2 : (s = [] ∨ (v ≠ 1 ∧ s.length = 18)) → T = r) : (if (!(s == ([] : Bs))) = true then (if (v == 1) = true then F else (if ((s.length : Int) != 18) = true then F else T)) else T) = r :=
  nq_step (fun ha => bq_step (fun hb => h1 (by grind)) (fun hb => ne_step (fun hc => h1 (by grind)) (fun hc => h2 (by grind)))) (fun ha => h2 (.inl ha))
theorem rau_step {R : Type} {s : Bs} {v : Int} {F T r : R} (h1 : ¬ (s = [] ∨ (v = 2 ∧ s.length = 18)) → F = r) (h2 : (s = [] ∨ (v = 2 ∧ s.length = 18)) → T = r) : (if (!(s == ([] : Bs))) = true then (if (v != 2) = true then F else (if ((s.length : Int) != 18) = true then F else T)) else T) = r :=
  nq_step (fun ha => ne_step (fun hb => h1 (by grind)) (fun hb => ne_step (fun hc => h1 (by grind)) (fun hc => h2 (by grind)))) (fun ha => h2 (.inl ha))
theorem pright4 {a : Bs} {n : Int} (h : a.length = 4) (hn : IntKind.has .i64 n) : g_prefix_Right (a, n, ()) = some ((decide (0 ≤ n ∧ n ≤ 32) && cleanB a n, ()), ()) := by
  rw [g_prefix_Right_eq, if_pos (by simp [h]), clean_is (by omega) hn, Option.bind_some]
  dsimp only
  refine dq_step (fun h0 => ?_) (fun h0 => ?_)
  · rw [w64 (by omega) (by omega)]
    refine dq_step (fun h1 => ?_) (fun h1 => ?_)
    · rw [decide_eq_true (by omega)]; rfl
    · rw [decide_eq_false (by omega)]; rfl
  · rw [decide_eq_false (by omega)]; rfl
theorem rpright4 {a : Bs} {n : Int} (h : a.length = 4) : g_ref04_Right (a, n, ()) = some ((decide (0 ≤ n ∧ n ≤ 32) && cleanB a n, ()), ()) := by
  rw [g_ref04_Right_eq, if_pos (by simp [h]), rclean_is (by omega), Option.bind_some]
  dsimp only
  refine dq_step (fun h0 => ?_) (fun h0 => ?_)
  · rw [w64 (by omega) (by omega)]
    refine dq_step (fun h1 => ?_) (fun h1 => ?_)
    · rw [decide_eq_true (by omega)]; rfl
    · rw [decide_eq_false (by omega)]; rfl
  · rw [decide_eq_false (by omega)]; rfl
theorem ripRight_is {m : Msg} (g : RM m) : g_rip_Right (m, ()) = some ((rightR m, ()), ()) := by
  have no : ¬ okR m → (some ((false, ()), ()) : Option ((Bool × Unit) × Unit)) = some ((rightR m, ()), ()) := fun h => by
    have : rightR m = false := by cases e : rightR m with | false => rfl | true => exact absurd (rightR_true.1 e) h
    rw [this]
  have yes : ∀ {b : Bool}, (b = true ↔ okR m) → (some ((b, ()), ()) : Option ((Bool × Unit) × Unit)) = some ((rightR m, ()), ()) := fun {b} h => by
    have : b = rightR m := by rw [Bool.eq_iff_iff, h, rightR_true]
    rw [this]
  rw [g_rip_Right_eq]
  refine ne_step (fun hk => no fun h => hk h.1) (fun hk => ?_)
  rw [bare_is, Option.bind_some]
  refine nb_step (fun hb => no fun h => by have := h.2.1; dsimp only at hb; rw [hb] at this; cases this) (fun hb => ?_)
  dsimp only at hb
  rw [g_rip_four_eq, Option.bind_some]
  refine nb_step (fun hp => no fun h => by have := h.2.2.2.2.1; dsimp only at hp; simp at hp; omega) (fun hp => ?_)
  have hp4 : m.prefix_.length = 4 := by simp at hp; omega
  rw [g_rip_four_eq, Option.bind_some]
  refine nb_step (fun hp => no fun h => by have := h.2.2.2.2.2.1; dsimp only at hp; simp at hp; omega) (fun hn => ?_)
  have hn4 : m.next.length = 4 := by simp at hn; omega
  refine two_step (fun hc => no fun h => hc h.2.2.1) (fun hc => ?_)
  refine two_step (fun hv => no fun h => hv h.2.2.2.1) (fun hv => ?_)
  refine au_step (fun ha => no fun h => ha (by have := h.2.2.2.2.2.2.1; grind)) (fun ha => ?_)
  have ha' : m.auth = [] ∨ (m.ver = 2 ∧ m.auth.length = 18) := by grind
  have z8 := zero8 hp4 hn4
  have zn := zero4 hn4
  refine bq_step (fun f0 => ?_) (fun f0 => ?_)
  · refine bq_step (fun c1 => ?_) (fun c1 => no (by grind [okR]))
    refine bq_step (fun t0 => ?_) (fun t0 => no (by grind [okR]))
    refine bq_step (fun p0 => ?_) (fun t0 => no (by grind [okR]))
    refine bq_step (fun m0 => ?_) (fun t0 => no (by grind [okR]))
    rw [if_pos (maxB_of (by omega)), zero_is (by simp; omega), Option.bind_some]
    exact yes (by rw [z8]; grind [okR])
  · refine ne_step (fun f2 => no (by grind [okR])) (fun f2 => ?_)
    refine dq_step (fun h1 => no (by grind [okR])) (fun h1 => ?_)
    refine dq_step (fun h2 => no (by grind [okR])) (fun h2 => ?_)
    refine bq_step (fun v1 => ?_) (fun v1 => ?_)
    · refine bq_step (fun t0 => ?_) (fun t0 => no (by grind [okR]))
      refine bq_step (fun p0 => ?_) (fun t0 => no (by grind [okR]))
      rw [zero_is (by omega), Option.bind_some]
      exact yes (by rw [zn]; grind [okR])
    · have ft := fits_is (k := 2) g.tag (by omega) (by omega)
      rw [show ((2 : Nat) : Int) = 2 from rfl] at ft
      rw [ft, Option.bind_some]
      dsimp only
      have hf : fitsB m.tag 2 = true ↔ 0 ≤ m.tag ∧ m.tag ≤ 65535 := by unfold fitsB; rw [decide_eq_true_eq]; omega
      cases hfb : fitsB m.tag 2 with
      | false => rw [iff_]; exact no (fun h => by
        have : ¬ (0 ≤ m.tag ∧ m.tag ≤ 65535) := by rw [← hf, hfb]; simp
        grind [okR])
      | true =>
        have := hf.1 hfb
        rw [ift, pright4 hp4 g.plen, Option.bind_some]
        exact yes (by rw [Bool.and_eq_true, decide_eq_true_eq]; grind [okR])
theorem rripRight_is {m : Msg} (g : RM m) : g_ref10_Right (m, ()) = some ((rightR m, ()), ()) := by
  have no : ¬ okR m → (some ((false, ()), ()) : Option ((Bool × Unit) × Unit)) = some ((rightR m, ()), ()) := fun h => by
    have : rightR m = false := by cases e : rightR m with | false => rfl | true => exact absurd (rightR_true.1 e) h
    rw [this]
  have yes : ∀ {b : Bool}, (b = true ↔ okR m) → (some ((b, ()), ()) : Option ((Bool × Unit) × Unit)) = some ((rightR m, ()), ()) := fun {b} h => by
    have : b = rightR m := by rw [Bool.eq_iff_iff, h, rightR_true]
    rw [this]
  rw [g_ref10_Right_eq]
  refine ne_step (fun hk => no fun h => hk h.1) (fun hk => ?_)
  rw [rbare_is g.list g.subs, Option.bind_some]
  refine nb_step (fun hb => no fun h => by have := h.2.1; dsimp only at hb; rw [hb] at this; cases this) (fun hb => ?_)
  dsimp only at hb
  refine dq_step (fun h1 => no (by grind [okR])) (fun c1 => ?_)
  refine dq_step (fun h1 => no (by grind [okR])) (fun c2 => ?_)
  refine dq_step (fun h1 => no (by grind [okR])) (fun v1 => ?_)
  refine dq_step (fun h1 => no (by grind [okR])) (fun v2 => ?_)
  refine ne_step (fun h1 => no (by grind [okR])) (fun hp => ?_)
  refine ne_step (fun h1 => no (by grind [okR])) (fun hn => ?_)
  have hp4 : m.prefix_.length = 4 := by omega
  have hn4 : m.next.length = 4 := by omega
  have hc : m.cmd = 1 ∨ m.cmd = 2 := by omega
  have hv : m.ver = 1 ∨ m.ver = 2 := by omega
  refine rau_step (fun ha => no fun h => ha h.2.2.2.2.2.2.1) (fun ha => ?_)
  rw [nought_is, Option.bind_some]
  refine bq_step (fun f0 => ?_) (fun f0 => ?_)
  · refine bq_step (fun c1 => ?_) (fun c1 => no (by grind [okR]))
    refine bq_step (fun t0 => ?_) (fun t0 => no (by grind [okR]))
    refine bq_step (fun p0 => ?_) (fun t0 => no (by grind [okR]))
    refine be_stepR (fun e1 => ?_) (fun t0 => no (by grind [okR]))
    rw [Option.bind_some]
    refine be_stepR (fun e1 => ?_) (fun t0 => no (by grind [okR]))
    exact yes (by rw [beq_iff_eq]; grind [okR])
  · refine ne_step (fun f2 => no (by grind [okR])) (fun f2 => ?_)
    refine dq_step (fun h1 => no (by grind [okR])) (fun h1 => ?_)
    refine dq_step (fun h2 => no (by grind [okR])) (fun h2 => ?_)
    refine bq_step (fun v1 => ?_) (fun v1 => ?_)
    · refine bq_step (fun t0 => ?_) (fun t0 => no (by grind [okR]))
      refine bq_step (fun p0 => ?_) (fun t0 => no (by grind [okR]))
      rw [Option.bind_some]
      exact yes (by rw [beq_iff_eq]; grind [okR])
    · refine dq_step (fun t0 => ?_) (fun t0 => no (by grind [okR]))
      refine dq_step (fun t0 => ?_) (fun t0 => no (by grind [okR]))
      rw [rpright4 hp4, Option.bind_some]
      exact yes (by rw [Bool.and_eq_true, decide_eq_true_eq]; grind [okR])
end Go.VP
set_option linter.unusedVariables false
set_option linter.unusedSimpArgs false
set_option maxRecDepth 100000
namespace Go.VP
open Go Go.VI
abbrev Ent := S_api_Entry
def routeM (cmd ver : Int) (says : Bs) (e : Ent) : Msg := ⟨1, cmd, ver, says, e.family, 0, e.addr, (if e.family = 0 then 0 else if ver = 1 then 32 else (plenF e.mask).1), e.tag, e.next, e.metric, [], 0, 0, 0, 0, 0, 0, 0, [], [], [], 0, [], []⟩
open Classical in
noncomputable def errR (cmd ver : Int) (says : Bs) (alone : Bool) (e : Ent) : Int :=
  if e.family = 0 then (if alone = true ∧ e.mask = z4 ∧ okR (routeM cmd ver says e) then 0 else 7)
  else if e.family ≠ 2 then 4
  else if ver = 1 then (if e.tag ≠ 0 ∨ e.mask ≠ z4 ∨ e.next ≠ z4 then 5 else if e.metric < 1 ∨ 16 < e.metric then 6 else 0)
  else if ¬ ((plenF e.mask).2 = true ∧ cleanB e.addr (plenF e.mask).1 = true) then 7
  else if e.metric < 1 ∨ 16 < e.metric then 6 else 0
theorem lf {x : Msg} {v E : Int} {M : Msg} {R : Type} {S : R} (h : E = v) (h0 : v ≠ 0) : ∃ m', (some ((x, v, ()), S) : Option ((Msg × Int × Unit) × R)) = some ((m', E, ()), S) ∧ (E = 0 → m' = M) := ⟨x, by rw [h], fun e => absurd (h.symm.trans e) h0⟩
theorem lf0 {x : Msg} {E : Int} {M : Msg} {R : Type} {S : R} (hx : x = M) (h : E = 0) : ∃ m', (some ((x, 0, ()), S) : Option ((Msg × Int × Unit) × R)) = some ((m', E, ()), S) ∧ (E = 0 → m' = M) := ⟨M, by rw [h, hx], fun _ => rfl⟩
structure EntOk (e : Ent) : Prop where
  fam : 0 ≤ e.family ∧ e.family ≤ 65535
  tag : 0 ≤ e.tag ∧ e.tag ≤ 65535
  addr : e.addr.length = 4
  mask : e.mask.length = 4
  next : e.next.length = 4
  metric : 0 ≤ e.metric ∧ e.metric ≤ 4294967295
theorem cut_len {s : Bs} {p n : Nat} (h : p + n ≤ s.length) : (cut_ s p n).length = n := by
  have := cut_length (s := s) (p := p) (n := n) (by omega) (by omega) (by omega)
  omega
theorem entF_ok {s : Bs} (h : s.length = 20) : EntOk (entF s) := by
  have h2 : ∀ p : Nat, p + 2 ≤ 20 → 0 ≤ num (cut_ s p 2) ∧ num (cut_ s p 2) ≤ 65535 := fun p hp => by
    have := num_rng (cut_ s p 2)
    have hl : (cut_ s p 2).length = 2 := cut_len (n := 2) (by omega)
    rw [hl] at this; omega
  have h4 := num_rng (cut_ s 16 4)
  have hl : (cut_ s 16 4).length = 4 := cut_len (p := 16) (n := 4) (by omega)
  rw [hl] at h4
  exact ⟨h2 0 (by omega), h2 2 (by omega), cut_len (p := 4) (n := 4) (by omega), cut_len (p := 8) (n := 4) (by omega), cut_len (p := 12) (n := 4) (by omega), by show 0 ≤ num (cut_ s 16 4) ∧ _; exact ⟨h4.1, by show num (cut_ s 16 4) ≤ _; omega⟩⟩
theorem routeM_rm {cmd ver : Int} {says : Bs} {e : Ent} (h : EntOk e) : RM (routeM cmd ver says e) := by
  have h1 := h.tag
  refine ⟨has64.2 (by show _ ≤ e.tag ∧ e.tag ≤ _; omega), ?_, by simp [routeM], by simp [routeM]⟩
  rw [has64]
  show _ ≤ (if e.family = 0 then (0 : Int) else if ver = 1 then 32 else (plenF e.mask).1) ∧ (if e.family = 0 then (0 : Int) else if ver = 1 then 32 else (plenF e.mask).1) ≤ _
  rcases plenF_cases e.mask with ⟨k, hk, _⟩ | ⟨hk, _⟩
  · rw [hk]; have := k.isLt; split
    · omega
    · split <;> simp <;> omega
  · rw [hk]; split
    · omega
    · split <;> simp
theorem route_is {cmd ver : Int} {says : Bs} {alone : Bool} {e : Ent} (h : EntOk e) :
    ∃ m', g_rip_reader_route (⟨cmd, ver, says, alone⟩, e, ()) = some ((m', errR cmd ver says alone e, ()), ((⟨cmd, ver, says, alone⟩ : S_rip_reader), ())) ∧ (errR cmd ver says alone e = 0 → m' = routeM cmd ver says e) := by
  have zm := zero4 h.mask
  have zz := zero8 h.mask h.next
  have rm := routeM_rm (cmd := cmd) (ver := ver) (says := says) h
  rw [g_rip_reader_route_eq]
  dsimp only
  by_cases f0 : e.family = 0
  · rw [if_pos (by simp [f0])]
    cases alone with
    | false => rw [ifnf]; exact lf (v := 7) (by unfold errR; rw [if_pos f0, if_neg (by simp)]) (by decide)
    | true =>
      rw [ifnt, zero_is (by have := h.mask; omega), Option.bind_some]
      dsimp only
      cases hz : zeroB e.mask with
      | false =>
        rw [ifnf]; exact lf (v := 7) (by unfold errR; rw [if_pos f0, if_neg (by rw [← zm, hz]; simp)]) (by decide)
      | true =>
        have hm := zm.1 hz
        have er : (⟨1, cmd, ver, says, e.family, 0, e.addr, 0, e.tag, e.next, e.metric, [], 0, 0, 0, 0, 0, 0, 0, [], [], [], 0, [], []⟩ : Msg) = routeM cmd ver says e := by unfold routeM; rw [if_pos f0]
        rw [ifnt, er, ripRight_is rm, Option.bind_some]
        dsimp only
        by_cases ho : okR (routeM cmd ver says e)
        · rw [rightR_true.2 ho, ifnt]
          exact lf0 rfl (by unfold errR; rw [if_pos f0, if_pos ⟨rfl, hm, ho⟩])
        · have : rightR (routeM cmd ver says e) = false := by cases e' : rightR (routeM cmd ver says e) with | false => rfl | true => exact absurd (rightR_true.1 e') ho
          rw [this, ifnf]
          exact lf (v := 7) (by unfold errR; rw [if_pos f0, if_neg (fun h => ho h.2.2)]) (by decide)
  · rw [if_neg (by simp [f0])]
    by_cases f2 : e.family = 2
    · rw [if_neg (by simp [f2])]
      by_cases v1 : ver = 1
      · subst v1
        rw [if_pos (by rfl)]
        by_cases t0 : e.tag = 0
        · rw [if_neg (by simp [t0]), if_pos (maxB_of (by have := h.mask; have := h.next; omega)), zero_is (by have := h.mask; have := h.next; simp; omega), Option.bind_some]
          dsimp only
          cases hz : zeroB (e.mask ++ e.next) with
          | false =>
            rw [ifnf]
            refine lf (v := 5) ?_ (by decide)
            unfold errR; rw [if_neg f0, if_neg (by omega), if_pos rfl, if_pos]
            by_cases hm : e.mask = z4
            · refine .inr (.inr fun hn => ?_); have := zz.2 ⟨hm, hn⟩; rw [hz] at this; cases this
            · exact .inr (.inl hm)
          | true =>
            have hm := zz.1 hz
            rw [ifnt]
            by_cases m1 : e.metric < 1
            · rw [ifd m1]; exact lf (v := 6) (by unfold errR; rw [if_neg f0, if_neg (by omega), if_pos rfl, if_neg (by grind), if_pos (.inl m1)]) (by decide)
            · rw [ifn m1]
              by_cases m2 : 16 < e.metric
              · rw [ifd m2]; exact lf (v := 6) (by unfold errR; rw [if_neg f0, if_neg (by omega), if_pos rfl, if_neg (by grind), if_pos (.inr m2)]) (by decide)
              · rw [ifn m2]; exact lf0 (by unfold routeM; rw [if_neg f0, if_pos rfl]) (by unfold errR; rw [if_neg f0, if_neg (by omega), if_pos rfl, if_neg (by grind), if_neg (by omega)])
        · rw [if_pos (by simp [t0])]
          exact lf (v := 5) (by unfold errR; rw [if_neg f0, if_neg (by omega), if_pos rfl, if_pos (.inl t0)]) (by decide)
      · rw [if_neg (by simp [v1]), plen_is h.mask, Option.bind_some]
        dsimp only
        cases hp : (plenF e.mask).2 with
        | false =>
          rw [ifnf]
          exact lf (v := 7) (by unfold errR; rw [if_neg f0, if_neg (by omega), if_neg v1, if_pos (by rw [hp]; simp)]) (by decide)
        | true =>
          have pr := plenF_ok hp
          rw [ifnt, pright4 h.addr (has64.2 (by omega)), Option.bind_some]
          dsimp only
          rw [decide_eq_true (show 0 ≤ (plenF e.mask).1 ∧ (plenF e.mask).1 ≤ 32 by omega), Bool.true_and]
          cases hc : cleanB e.addr (plenF e.mask).1 with
          | false =>
            rw [ifnf]
            exact lf (v := 7) (by unfold errR; rw [if_neg f0, if_neg (by omega), if_neg v1, if_pos (by rw [hc]; simp)]) (by decide)
          | true =>
            rw [ifnt]
            by_cases m1 : e.metric < 1
            · rw [ifd m1]; exact lf (v := 6) (by unfold errR; rw [if_neg f0, if_neg (by omega), if_neg v1, if_neg (by simp [hp, hc]), if_pos (.inl m1)]) (by decide)
            · rw [ifn m1]
              by_cases m2 : 16 < e.metric
              · rw [ifd m2]; exact lf (v := 6) (by unfold errR; rw [if_neg f0, if_neg (by omega), if_neg v1, if_neg (by simp [hp, hc]), if_pos (.inr m2)]) (by decide)
              · rw [ifn m2]; exact lf0 (by unfold routeM; rw [if_neg f0, if_neg v1]) (by unfold errR; rw [if_neg f0, if_neg (by omega), if_neg v1, if_neg (by simp [hp, hc]), if_neg (by omega)])
    · rw [if_pos (by simp [f2])]
      exact lf (v := 4) (by unfold errR; rw [if_neg f0, if_pos f2]) (by decide)
theorem rroute_is {cmd ver : Int} {says : Bs} {alone : Bool} {e : Ent} (h : EntOk e) :
    ∃ m', g_ref10_route (e, cmd, ver, says, alone, ()) = some ((m', errR cmd ver says alone e, ()), ()) ∧ (errR cmd ver says alone e = 0 → m' = routeM cmd ver says e) := by
  have rm := routeM_rm (cmd := cmd) (ver := ver) (says := says) h
  rw [g_ref10_route_eq]
  by_cases f0 : e.family = 0
  · rw [if_pos (by simp [f0])]
    cases alone with
    | false => rw [ifnf]; exact lf (v := 7) (by unfold errR; rw [if_pos f0, if_neg (by simp)]) (by decide)
    | true =>
      rw [ifnt, nought_is, Option.bind_some]
      dsimp only
      by_cases hm : e.mask = z4
      · have er : (⟨1, cmd, ver, says, e.family, 0, e.addr, 0, e.tag, e.next, e.metric, [], 0, 0, 0, 0, 0, 0, 0, [], [], [], 0, [], []⟩ : Msg) = routeM cmd ver says e := by unfold routeM; rw [if_pos f0]
        rw [if_neg (by simp [hm]), er, rripRight_is rm, Option.bind_some]
        dsimp only
        by_cases ho : okR (routeM cmd ver says e)
        · rw [rightR_true.2 ho, ifnt]
          exact lf0 rfl (by unfold errR; rw [if_pos f0, if_pos ⟨rfl, hm, ho⟩])
        · have : rightR (routeM cmd ver says e) = false := by cases e' : rightR (routeM cmd ver says e) with | false => rfl | true => exact absurd (rightR_true.1 e') ho
          rw [this, ifnf]
          exact lf (v := 7) (by unfold errR; rw [if_pos f0, if_neg (fun h => ho h.2.2)]) (by decide)
      · rw [if_pos (by simpa using hm)]
        exact lf (v := 7) (by unfold errR; rw [if_pos f0, if_neg (fun h => hm h.2.1)]) (by decide)
  · rw [if_neg (by simp [f0])]
    by_cases f2 : e.family = 2
    · rw [if_neg (by simp [f2])]
      by_cases v1 : ver = 1
      · subst v1
        rw [if_pos (by rfl)]
        by_cases t0 : e.tag = 0
        · rw [if_neg (by simp [t0]), nought_is, Option.bind_some]
          dsimp only
          by_cases hm : e.mask = z4
          · rw [if_neg (by simp [hm]), Option.bind_some]
            dsimp only
            by_cases hn : e.next = z4
            · rw [if_neg (by simp [hn])]
              by_cases m1 : e.metric < 1
              · rw [ifd m1]; exact lf (v := 6) (by unfold errR; rw [if_neg f0, if_neg (by omega), if_pos rfl, if_neg (by grind), if_pos (.inl m1)]) (by decide)
              · rw [ifn m1]
                by_cases m2 : 16 < e.metric
                · rw [ifd m2]; exact lf (v := 6) (by unfold errR; rw [if_neg f0, if_neg (by omega), if_pos rfl, if_neg (by grind), if_pos (.inr m2)]) (by decide)
                · rw [ifn m2]; exact lf0 (by unfold routeM; rw [if_neg f0, if_pos rfl]) (by unfold errR; rw [if_neg f0, if_neg (by omega), if_pos rfl, if_neg (by grind), if_neg (by omega)])
            · rw [if_pos (by simpa using hn)]
              exact lf (v := 5) (by unfold errR; rw [if_neg f0, if_neg (by omega), if_pos rfl, if_pos (.inr (.inr hn))]) (by decide)
          · rw [if_pos (by simpa using hm)]
            exact lf (v := 5) (by unfold errR; rw [if_neg f0, if_neg (by omega), if_pos rfl, if_pos (.inr (.inl hm))]) (by decide)
        · rw [if_pos (by simp [t0])]
          exact lf (v := 5) (by unfold errR; rw [if_neg f0, if_neg (by omega), if_pos rfl, if_pos (.inl t0)]) (by decide)
      · rw [if_neg (by simp [v1]), rplen_is, Option.bind_some]
        dsimp only
        cases hp : (plenF e.mask).2 with
        | false =>
          rw [ifnf]
          exact lf (v := 7) (by unfold errR; rw [if_neg f0, if_neg (by omega), if_neg v1, if_pos (by rw [hp]; simp)]) (by decide)
        | true =>
          have pr := plenF_ok hp
          rw [ifnt, rpright4 h.addr, Option.bind_some]
          dsimp only
          rw [decide_eq_true (show 0 ≤ (plenF e.mask).1 ∧ (plenF e.mask).1 ≤ 32 by omega), Bool.true_and]
          cases hc : cleanB e.addr (plenF e.mask).1 with
          | false =>
            rw [ifnf]
            exact lf (v := 7) (by unfold errR; rw [if_neg f0, if_neg (by omega), if_neg v1, if_pos (by rw [hc]; simp)]) (by decide)
          | true =>
            rw [ifnt]
            by_cases m1 : e.metric < 1
            · rw [ifd m1]; exact lf (v := 6) (by unfold errR; rw [if_neg f0, if_neg (by omega), if_neg v1, if_neg (by simp [hp, hc]), if_pos (.inl m1)]) (by decide)
            · rw [ifn m1]
              by_cases m2 : 16 < e.metric
              · rw [ifd m2]; exact lf (v := 6) (by unfold errR; rw [if_neg f0, if_neg (by omega), if_neg v1, if_neg (by simp [hp, hc]), if_pos (.inr m2)]) (by decide)
              · rw [ifn m2]; exact lf0 (by unfold routeM; rw [if_neg f0, if_neg v1]) (by unfold errR; rw [if_neg f0, if_neg (by omega), if_neg v1, if_neg (by simp [hp, hc]), if_neg (by omega)])
    · rw [if_pos (by simp [f2])]
      exact lf (v := 4) (by unfold errR; rw [if_neg f0, if_pos f2]) (by decide)
end Go.VP
