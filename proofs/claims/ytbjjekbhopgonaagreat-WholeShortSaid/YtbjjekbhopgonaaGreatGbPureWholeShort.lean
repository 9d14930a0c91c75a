import Derived.Test.YtbjjekbhopgonaaGreatGbFQ16
import Derived.Test.YtbjjekbhopgonaaGreatGbM0
import Derived.Test.YtbjjekbhopgonaaGreatGbM1
import Derived.Test.YtbjjekbhopgonaaGreatGbM2
import Derived.Test.YtbjjekbhopgonaaGreatGbFQ0
import Derived.Test.YtbjjekbhopgonaaGreatGbFQ2
import Derived.Test.YtbjjekbhopgonaaGreatGbFQ7
import Derived.Test.YtbjjekbhopgonaaGreatGbFQ8
import Derived.Test.YtbjjekbhopgonaaGreatGbFQ12
import Derived.Test.YtbjjekbhopgonaaGreatGbFQ5
import Derived.Test.YtbjjekbhopgonaaGreatGbFQ3
import Derived.Test.YtbjjekbhopgonaaGreatGbFQ9
import Derived.Test.YtbjjekbhopgonaaGreatGbFGood
set_option linter.unusedVariables false
set_option linter.unusedSimpArgs false
set_option maxRecDepth 100000
namespace Go.VP
open Go Go.VI
noncomputable def plains : List Msg → Bs
  | [] => []
  | m :: r => (plainL m).1 ++ plains r
theorem plains_len : ∀ (l : List Msg), (plains l).length ≤ 800 * l.length
  | [] => by simp [plains]
  | m :: r => by
    have := plainL_small m
    have := plains_len r
    rw [plains, List.length_append, List.length_cons]; omega
theorem plains_app : ∀ (a b : List Msg), plains (a ++ b) = plains a ++ plains b
  | [], b => rfl
  | m :: r, b => by rw [List.cons_append, plains, plains, plains_app r b, List.append_assoc]
theorem plainGo_is : ∀ {l : List Msg} {n : Int}, (∀ m ∈ l, leanB m = true) → plainGo l n = n + (plains l).length
  | [], n, _ => by simp [plainGo, plains]
  | m :: r, n, h => by
    rw [plainGo, plainL_yes, h m (List.mem_cons_self ..), if_neg (show ¬ (true = false) by simp), plainGo_is (fun x hx => h x (List.mem_cons_of_mem _ hx)), plains, List.length_append]
    omega
theorem putL_behind {c : Ctx} {m : Msg} (he : (putL c m).2.2 = 0) : (putL c m).2.1 = behindL c m ∧ (m.kind = 11 → m.metric ≠ 65535 → m.next = [] → nextC c (famE m.ae) = []) := by
  unfold putL at he ⊢
  unfold behindL
  by_cases hl : leanB m = false
  · rw [if_pos hl] at he; exact absurd he (show ¬ ((1 : Int) = 0) by decide)
  rw [if_neg hl] at he ⊢
  by_cases hk : m.kind ≠ 11
  · rw [if_pos hk, if_neg hk]; exact ⟨rfl, fun q => absurd q hk⟩
  rw [if_neg hk] at he ⊢
  by_cases hx : m.metric ≠ 65535 ∧ m.next = [] ∧ nextC c (famE m.ae) ≠ []
  · rw [if_pos hx] at he; exact absurd he (show ¬ ((9 : Int) = 0) by decide)
  · rw [if_neg hx, if_pos (Classical.byContradiction hk)]
    exact ⟨rfl, fun _ hm hn => Classical.byContradiction fun q => hx ⟨hm, hn, q⟩⟩
theorem plains_says : ∀ {l : List Msg} {c d : Ctx} {s : Bs}, okC c → (∀ m ∈ l, LeanR m) → outS c l = some (s, d) → Says c (plains l) l d
  | [], c, d, s, hc, hl, h => by
    rw [outS] at h; cases h; exact says_nil c
  | m :: r, c, d, s, hc, hl, h => by
    rw [outS] at h
    have hm := hl m (List.mem_cons_self ..)
    split at h
    · cases h
    · rename_i he
      have he : (putL c m).2.2 = 0 := by simpa using he
      cases ho : outS (putL c m).2.1 r with
      | none => rw [ho] at h; cases h
      | some x =>
        rw [ho] at h
        cases h
        obtain ⟨b1, b2⟩ := putL_behind he
        have h1 := plainL_back hc hm b2
        have h2 := plains_says (putL_ok (m := m) hc hm) (fun x hx => hl x (List.mem_cons_of_mem _ hx)) ho
        rw [← b1] at h1
        exact says_app h1 h2
theorem short_loop {n : Nat} {l : List Msg} {r : (Bs × Int × Int × Unit) × Unit} {s : Bs} {d : Ctx} (hr : r = (((wrapF s).1, 0, 0, ()), ())) (hl : l.length ≤ 60) (hg : ∀ m ∈ l, GoodL m) (hb : ∀ m ∈ l, leanB m = true) (ho : outS c0 l = some (s, d)) (hs : (s.length : Int) ≤ 65531) :
    ∀ (e k i : Nat), i + e = l.length → e < k → L_top_WholeShort_0 n k l r (plains (l.take i)) i = some ((true, ()), ()) := by
  subst hr
  intro e
  induction e with
  | zero =>
    intro k i h hk
    obtain ⟨k, rfl⟩ : ∃ j, k = j + 1 := ⟨k - 1, by omega⟩
    have hpl := plains_len l
    have hsay := plains_says okC_c0 (fun m hm => leanR_iff.1 (hb m hm)) ho
    have hpo := parse_out hsay (by omega)
    obtain ⟨_, _, w3, w4⟩ := body_wrap (s := plains l) (t := []) (by omega) (by simp; omega)
    obtain ⟨_, _, v3, _⟩ := body_wrap (s := s) (t := []) (by omega) (by simp; omega)
    have hsh := outS_short (n := 4) hb ho
    rw [plainGo_is hb] at hsh
    rw [L_top_WholeShort_0_eq, ifn (by omega), List.take_of_length_le (by omega), rwrap_is (by omega), Option.bind_some, iparse_is, Option.bind_some, awbT, hpo, oplain_is (by omega) hg]
    dsimp only [trip]
    rw [ift, w3, v3, ifd (by omega), Option.bind_some, plainGo_is hb]
    dsimp only
    refine bq_step (fun _ => ?_) (fun q => absurd (by omega) q)
    rw [w4, ift]
    refine bq_step (fun _ => ?_) (fun q => absurd rfl q)
    rw [sameA_is (by omega) (fun m hm => (hg m hm).small), Option.bind_some]
  | succ e ih =>
    intro k i h hk
    obtain ⟨k, rfl⟩ : ∃ j, k = j + 1 := ⟨k - 1, by omega⟩
    have hi : i < l.length := by omega
    have hm := List.getElem_mem hi
    have := ih k (i + 1) (by omega) (by omega)
    rw [show ((i + 1 : Nat) : Int) = (i : Int) + 1 by omega, List.take_succ_eq_append_getElem hi, plains_app, plains, plains, List.append_nil] at this
    have hp1 := plains_len (l.take i)
    have hp2 := plainL_small l[i]
    rw [List.length_take] at hp1
    rw [L_top_WholeShort_0_eq, ifd (by omega), if_pos (by omega), Int.toNat_natCast, bind_at hi, rplain_is (hg _ hm), Option.bind_some]
    dsimp only
    rw [plainL_yes, hb _ hm, ifnt, if_pos (maxB_of (by omega)), w64 (by omega) (by omega)]
    exact this
theorem wholeShort_pure (x0 : List S_api_Msg) (g0 : Good_list_api_Msg x0) : g_top_WholeShort (x0, ()) = some ((true, ()), ()) := by
  have g0 : ∀ m ∈ x0, Good_api_Msg m := g0.1.2
  show h_top_WholeShort fuel _ = _
  rw [h_top_WholeShort_eq]
  obtain ⟨b, hb, hb'⟩ := fewA_is (a := x0) (k := 40) (by omega) (fun m hm => goodMsgA (g0 m hm))
  rw [hb, Option.bind_some]
  dsimp only
  cases b with
  | false => rw [ifnf]; exact awbT _
  | true =>
  obtain ⟨hl, hf⟩ := hb' rfl
  have hg : ∀ m ∈ x0, GoodQ m := fun m hm => goodQ (g0 m hm) (hf m hm)
  rw [ifnt, oenc_is (by omega) (fun m hm => (hg m hm).lean), Option.bind_some]
  refine ne_step (fun he => awbT _) (fun he => ?_)
  obtain ⟨h1, s, d, h2, h3, h4, _, _⟩ := encO_ok he
  exact short_loop (n := fuel) (by rw [h4]) (by omega) (fun m hm => (hg m hm).lean) h1 h2 h3 x0.length fuel 0 (by omega) (fuel_ge (by omega))
end Go.VP
