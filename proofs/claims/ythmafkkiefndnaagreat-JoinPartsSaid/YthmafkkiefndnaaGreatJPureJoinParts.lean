import Derived.Test.YthmafkkiefndnaaGreatJFQ15
import Derived.Test.YthmafkkiefndnaaGreatJM0
import Derived.Test.YthmafkkiefndnaaGreatJM1
import Derived.Test.YthmafkkiefndnaaGreatJFH
import Derived.Test.YthmafkkiefndnaaGreatJFQ7
import Derived.Test.YthmafkkiefndnaaGreatJM2
import Derived.Test.YthmafkkiefndnaaGreatJFGood
set_option linter.unusedVariables false
set_option linter.unusedSimpArgs false
set_option maxRecDepth 100000
namespace Go.VP
open Go Go.VI
theorem awake28 : g_law28_awake () = some ((true, ()), ()) := by kernel_rfl
theorem awb28 {α : Type} (f : (Bool × Unit) × Unit → Option α) : (g_law28_awake ()).bind f = f ((true, ()), ()) := by rw [awake28]; rfl
theorem few28_loop {n : Nat} {d : List Bs} (hl : d.length ≤ 1000) : ∀ (k m i : Nat), i + k = d.length → k < m → ∃ b, L_law28_few_0 n m d i = some ((b, ()), ()) ∧ (b = true → ∀ x ∈ d.drop i, x.length ≤ 1000) := by
  intro k
  induction k with
  | zero =>
    intro m i h hm
    obtain ⟨m, rfl⟩ : ∃ j, m = j + 1 := ⟨m - 1, by omega⟩
    rw [L_law28_few_0_eq, ifn (by omega), List.drop_eq_nil_of_le (by omega)]
    exact ⟨true, rfl, fun _ x hx => by cases hx⟩
  | succ k ih =>
    intro m i h hm
    obtain ⟨m, rfl⟩ : ∃ j, m = j + 1 := ⟨m - 1, by omega⟩
    have hi : i < d.length := by omega
    obtain ⟨b, h1, h2⟩ := ih m (i + 1) (by omega) (by omega)
    rw [show ((i + 1 : Nat) : Int) = (i : Int) + 1 by omega] at h1
    rw [L_law28_few_0_eq, ifd (by omega), if_pos (by omega), Int.toNat_natCast, bind_at hi, w64 (by omega) (by omega), h1]
    by_cases c : (1000 : Int) < (d[i].length : Int)
    · rw [ifd c]; exact ⟨false, rfl, fun h => by cases h⟩
    · rw [ifn c]
      refine ⟨b, rfl, fun hb x hx => ?_⟩
      rw [List.drop_eq_getElem_cons hi] at hx
      rcases List.mem_cons.1 hx with rfl | hx
      · omega
      · exact h2 hb x hx
theorem few28_is (d : List Bs) : ∃ b, g_law28_few (d, ()) = some ((b, ()), ()) ∧ (b = true → d.length ≤ 12 ∧ ∀ x ∈ d, x.length ≤ 1000) := by
  show ∃ b, h_law28_few fuel (d, ()) = _ ∧ _
  rw [h_law28_few_eq]
  by_cases c : (12 : Int) < (d.length : Int)
  · rw [ifd c]; exact ⟨false, rfl, fun h => by cases h⟩
  · rw [ifn c]
    obtain ⟨b, h1, h2⟩ := few28_loop (n := fuel) (d := d) (by omega) d.length fuel 0 (by omega) (fuel_ge (by omega))
    exact ⟨b, h1, fun hb => ⟨by omega, fun x hx => h2 hb x (by simpa using hx)⟩⟩
theorem joinGo_place {p : Int} : ∀ (d : List Bs) (i : Nat) (acc : List Msg), 0 ≤ (joinGo p d i acc).2.1 ∧ (joinGo p d i acc).2.1 ≤ ((i + d.length : Nat) : Int)
  | [], i, acc => by simp [joinGo]
  | b :: r, i, acc => by
    rw [joinGo]
    by_cases q : (parseP p b).2.2 ≠ 0
    · rw [if_pos q]; dsimp only; omega
    · rw [if_neg q]
      have := joinGo_place (p := p) r (i + 1) (acc ++ (parseP p b).1)
      rw [List.length_cons]; omega
theorem joinParts_pure (x0 : Int) (g0 : Good_uint8 x0) (x1 : List (List UInt8)) (g1 : Good_list_string x1) (x2 : Int) (g2 : Good_uint8 x2) : g_law28_JoinParts (x0, x1, x2, ()) = some ((true, ()), ()) := by
  have g2 : 0 ≤ x2 ∧ x2 ≤ 255 := has8.1 g2.1
  have g0 : 0 ≤ x0 ∧ x0 ≤ 255 := has8.1 g0.1
  rw [g_law28_JoinParts_eq]
  obtain ⟨b, hb, hb'⟩ := few28_is x1
  rw [hb, Option.bind_some]
  dsimp only
  cases b with
  | false => rw [ifnf]; exact awb28 _
  | true =>
  obtain ⟨hl, hd⟩ := hb' rfl
  have hd : ∀ b ∈ x1, b.length ≤ 100000 := fun b hb => by have := hd b hb; omega
  have hk : 1 ≤ IntKind.wrap .i64 (1 + IntKind.wrap .i64 (x0.tmod 4)) ∧ IntKind.wrap .i64 (1 + IntKind.wrap .i64 (x0.tmod 4)) ≤ 4 := by
    rw [Int.tmod_eq_emod_of_nonneg g0.1, w64 (x := x0 % 4) (by omega) (by omega), w64 (by omega) (by omega)]; omega
  generalize IntKind.wrap .i64 (1 + IntKind.wrap .i64 (x0.tmod 4)) = p at *
  rw [ifnt, w64 (x := (x1.length : Int) + 1) (by omega) (by omega), w64 (x := x2) (by omega) (by omega), Int.tmod_eq_emod_of_nonneg g2.1]
  obtain ⟨n, hn⟩ : ∃ n : Nat, x2 % ((x1.length : Int) + 1) = (n : Int) := ⟨(x2 % ((x1.length : Int) + 1)).toNat, by have := Int.emod_nonneg x2 (show (x1.length : Int) + 1 ≠ 0 by omega); omega⟩
  have hnl : n ≤ x1.length := by have := Int.emod_lt_of_pos x2 (show 0 < (x1.length : Int) + 1 by omega); omega
  rw [hn, if_pos (by omega), if_pos (by omega), Int.toNat_natCast]
  have hd1 : ∀ b ∈ x1.take n, b.length ≤ 100000 := fun b hb => hd b (List.mem_of_mem_take hb)
  have hd2 : ∀ b ∈ x1.drop n, b.length ≤ 100000 := fun b hb => hd b (List.mem_of_mem_drop hb)
  have l1 : (x1.take n).length = n := by rw [List.length_take]; omega
  have l2 : (x1.drop n).length = x1.length - n := List.length_drop
  have jp : ∀ d, joinP p d = joinGo p d 0 [] := fun d => by unfold joinP; rw [if_neg (by omega)]
  rw [join_is (by omega) hd1, Option.bind_some, if_pos (by omega), join_is (by omega) hd2, Option.bind_some, join_is (by omega) hd, Option.bind_some, jp, jp, jp]
  have happ := joinGo_app (p := p) (x1.take n) (x1.drop n) 0 []
  rw [List.take_append_drop, l1] at happ
  have hany := joinGo_any (p := p) (x1.drop n) 0 n (joinGo p (x1.take n) 0 []).1
  rw [hany] at happ
  obtain ⟨sa, ka⟩ := joinGo_ok (p := p) (x1.take n) 0 [] hd1 (fun m hm => by cases hm)
  obtain ⟨sb, kb⟩ := joinGo_ok (p := p) (x1.drop n) 0 [] hd2 (fun m hm => by cases hm)
  obtain ⟨sc, kc⟩ := joinGo_ok (p := p) x1 0 [] hd (fun m hm => by cases hm)
  simp only [List.length_nil, Nat.zero_add] at ka kb kc
  generalize hA : joinGo p (x1.take n) 0 [] = A at *
  generalize hB : joinGo p (x1.drop n) 0 [] = B at *
  dsimp only [quad]
  refine ne_step (fun he => ?_) (fun he => ?_)
  · rw [if_pos he] at happ
    have hz := joinGo_err (p := p) (x1.take n) 0 [] (by rw [hA]; exact he)
    rw [hA] at hz
    rw [awb28, happ]
    dsimp only
    rw [ift, hz]
    simp
  · rw [if_neg (fun c => c he)] at happ
    refine ne_step (fun hf => ?_) (fun hf => ?_)
    · rw [if_pos hf] at happ
      rw [awb28, happ]
      dsimp only
      have hpl := joinGo_place (p := p) (x1.drop n) 0 []
      rw [hB, l2] at hpl
      rw [ift, w64 (by omega) (by omega), Int.add_comm (n : Int)]
      simp
    · rw [if_neg (fun c => c hf)] at happ
      rw [awb28, happ]
      dsimp only
      rw [ift, if_pos (by simp), if_pos (room_msgs (a := 0) (b := A.1.length) (by omega)), List.nil_append, if_pos (room_msgs (by omega)), sameA_is (by rw [List.length_append]; omega) (fun m hm => (List.mem_append.1 hm).elim (sa m) (sb m))]
      rfl
end Go.VP
