/- A datagram's body, and what is behind it; the datagram of a body. -/
import Derived.Test.YtabekdfijifnfaaQFQ5
import Derived.Test.YtabekdfijifnfaaQFQ9
import Derived.Test.YtabekdfijifnfaaQPBase
import Derived.Test.YtabekdfijifnfaaQPCur
import Derived.Test.YtabekdfijifnfaaQPOct
import Derived.Test.YtabekdfijifnfaaQPTlv
import Derived.Test.YtabekdfijifnfaaQPSub
import Derived.Test.YtabekdfijifnfaaQPMsg
set_option linter.unusedVariables false
set_option linter.unusedSimpArgs false
set_option maxRecDepth 100000
namespace Go.VP
open Go Go.VI
def sizeB (b : Bs) : Int := bt b 2 * 256 + bt b 3
def bodyF (b : Bs) : Bs × Int × Int :=
  if 65535 < (b.length : Int) then ([], 65535, 10) else if (b.length : Int) < 4 then ([], b.length, 2)
  else if bt b 0 ≠ 42 then ([], 0, 4) else if bt b 1 ≠ 2 then ([], 1, 4)
  else if (b.length : Int) < 4 + sizeB b then ([], b.length, 2) else (cut_ b 4 (sizeB b), 0, 0)
theorem dq_body {R : Type} {p : Prop} [Decidable p] {t f r : R} (h : p → t = r) (h' : ¬ p → f = r) : (if decide p = true then t else f) = r := by
  by_cases hp : p
  · rw [ifd hp]; exact h hp
  · rw [ifn hp]; exact h' hp
theorem sizeB_rng (b : Bs) : 0 ≤ sizeB b ∧ sizeB b ≤ 65535 := by
  have h2 := bt_rng b 2
  have h3 := bt_rng b 3
  unfold sizeB; omega
theorem rbody_is (b : Bs) : g_ref18_Body (b, ()) = some (trip (bodyF b), ()) := by
  have hr := sizeB_rng b
  have h2 := bt_rng b 2
  have h3 := bt_rng b 3
  rw [g_ref18_Body_eq]; unfold bodyF
  refine dq_body (fun h => by rw [if_pos h]) (fun h1 => ?_)
  rw [if_neg h1]
  refine dq_body (fun h => by rw [if_pos h]) (fun h2 => ?_)
  rw [if_neg h2, get_bt (i := 0) (by omega), Option.bind_some]
  refine ne_step (fun h => by rw [if_pos (show bt b 0 ≠ 42 from h)]) (fun h3 => ?_)
  rw [if_neg (show ¬ bt b 0 ≠ 42 from fun q => q h3), get_bt (i := 1) (by omega), Option.bind_some]
  refine ne_step (fun h => by rw [if_pos (show bt b 1 ≠ 2 from h)]) (fun h4 => ?_)
  rw [if_neg (show ¬ bt b 1 ≠ 2 from fun q => q h4), get_bt (i := 2) (by omega), Option.bind_some, get_bt (i := 3) (by omega), Option.bind_some, w64n, w64n]
  show (if decide ((b.length : Int) < (IntKind.wrap .i64 (4 + (IntKind.wrap .i64 ((IntKind.wrap .i64 (256 * bt b 2)) + bt b 3))))) = true then some ((([] : List UInt8), (b.length : Int), 2, ()), ()) else (if 0 ≤ (4 : Int) ∧ (4 : Int) ≤ (IntKind.wrap .i64 (4 + (IntKind.wrap .i64 ((IntKind.wrap .i64 (256 * bt b 2)) + bt b 3)))) ∧ (IntKind.wrap .i64 (4 + (IntKind.wrap .i64 ((IntKind.wrap .i64 (256 * bt b 2)) + bt b 3)))) ≤ (b.length : Int) then some ((((b.take (IntKind.wrap .i64 (4 + (IntKind.wrap .i64 ((IntKind.wrap .i64 (256 * bt b 2)) + bt b 3)))).toNat).drop 4), 0, 0, ()), ()) else none)) = _
  have e : IntKind.wrap .i64 (4 + (IntKind.wrap .i64 ((IntKind.wrap .i64 (256 * bt b 2)) + bt b 3))) = 4 + sizeB b := by
    rw [w64 (x := 256 * bt b 2) (by omega) (by omega), w64 (x := 256 * bt b 2 + bt b 3) (by omega) (by omega), w64 (by omega) (by omega)]
    unfold sizeB; omega
  rw [e]
  refine dq_body (fun h => by rw [if_pos h]) (fun h5 => ?_)
  rw [if_neg h5, if_pos (by omega)]; rfl
theorem bodyF_ok {b : Bs} (h : (bodyF b).2.2 = 0) : 4 ≤ b.length ∧ b.length ≤ 65535 ∧ bt b 0 = 42 ∧ bt b 1 = 2 ∧ 4 + sizeB b ≤ b.length ∧ bodyF b = (cut_ b 4 (sizeB b), 0, 0) ∧ ((bodyF b).1.length : Int) = sizeB b := by
  have hr := sizeB_rng b
  unfold bodyF at h ⊢
  split at h
  · cases h
  split at h
  · cases h
  split at h
  · cases h
  split at h
  · cases h
  split at h
  · cases h
  rename_i h1 h2 h3 h4 h5
  rw [if_neg h1, if_neg h2, if_neg h3, if_neg h4, if_neg h5]
  exact ⟨by omega, by omega, by simpa using h3, by simpa using h4, by omega, rfl, cut_length (by omega) (by omega) (by omega)⟩
def behF (b : Bs) : Bs := b.drop (4 + sizeB b).toNat
theorem rtrailer_is {b : Bs} (h : (bodyF b).2.2 = 0) : g_ref18_Trailer (b, ()) = some ((behF b, ()), ()) := by
  have hr := sizeB_rng b
  obtain ⟨h1, h2, _, _, h5, h6, h7⟩ := bodyF_ok h
  rw [g_ref18_Trailer_eq, rbody_is, Option.bind_some]
  dsimp only [trip]
  rw [h7, w64 (by omega) (by omega), if_pos (by omega)]; rfl
def wrapF (s : Bs) : Bs × Bool := if 65531 < (s.length : Int) then ([], false) else (42 :: 2 :: (be 2 s.length ++ s), true)
theorem body_wrap {s t : Bs} (h : s.length ≤ 65531) (ht : t.length + s.length ≤ 65531) : bodyF ((wrapF s).1 ++ t) = (s, 0, 0) ∧ behF ((wrapF s).1 ++ t) = t ∧ (wrapF s).1.length = 4 + s.length ∧ (wrapF s).2 = true := by
  have e : wrapF s = (42 :: 2 :: (be 2 s.length ++ s), true) := by unfold wrapF; rw [if_neg (by omega)]
  rw [e]
  dsimp only
  have hL : ((42 :: 2 :: (be 2 (s.length : Int) ++ s)) : Bs).length = 4 + s.length := by simp [be_length]; omega
  have hb : (42 :: 2 :: (be 2 (s.length : Int) ++ s)) ++ t = ([42, 2] : Bs) ++ (be 2 (s.length : Int) ++ (s ++ t)) := by simp
  have n2 : num (be 2 (s.length : Int)) = s.length := num_be 2 _ (by omega) (by omega)
  generalize hB : (42 :: 2 :: (be 2 (s.length : Int) ++ s)) ++ t = B at *
  have hBl : B.length = 4 + s.length + t.length := by rw [hb]; simp [be_length]; omega
  have b0 : bt B 0 = 42 := by rw [hb]; rfl
  have b1 : bt B 1 = 2 := by rw [hb]; rfl
  have sz : sizeB B = s.length := by
    unfold sizeB
    rw [← num2 (s := B) (p := 2) (by omega)]
    have : cut_ B ((2 : Nat) : Int) 2 = be 2 (s.length : Int) := by
      rw [hb]
      show cut_ (([42, 2] : Bs) ++ (be 2 (s.length : Int) ++ (s ++ t))) 2 2 = _
      unfold cut_
      show List.drop 2 (List.take 4 (([42, 2] : Bs) ++ (be 2 (s.length : Int) ++ (s ++ t)))) = _
      rw [show 4 = ([42, 2] : Bs).length + 2 from rfl, List.take_length_add_append, List.drop_left' (by rfl), List.take_left' (be_length 2 _)]
    rw [this, n2]
  have ct : cut_ B 4 (s.length : Int) = s := by
    unfold cut_
    rw [hb, show ((4 : Int) + (s.length : Int)).toNat = 4 + s.length by omega, show (4 : Int).toNat = 4 from rfl, ← List.append_assoc, ← List.append_assoc, List.take_left' (by simp [be_length]; omega), List.drop_left' (by simp [be_length])]
  refine ⟨?_, ?_, hL, rfl⟩
  · unfold bodyF
    rw [if_neg (by omega), if_neg (by omega), if_neg (by rw [b0]; simp), if_neg (by rw [b1]; simp), sz, if_neg (by omega), ct]
  · unfold behF
    rw [sz, hb, ← List.append_assoc, ← List.append_assoc, List.drop_left' (by simp [be_length]; omega)]
end Go.VP
