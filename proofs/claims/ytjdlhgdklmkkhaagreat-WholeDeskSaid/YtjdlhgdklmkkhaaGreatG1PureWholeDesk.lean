import Derived.Test.YtjdlhgdklmkkhaaGreatG1FQ15
import Derived.Test.YtjdlhgdklmkkhaaGreatG1M0
import Derived.Test.YtjdlhgdklmkkhaaGreatG1M1
import Derived.Test.YtjdlhgdklmkkhaaGreatG1FH
import Derived.Test.YtjdlhgdklmkkhaaGreatG1M2
import Derived.Test.YtjdlhgdklmkkhaaGreatG1M3
import Derived.Test.YtjdlhgdklmkkhaaGreatG1FGood
set_option linter.unusedVariables false
set_option linter.unusedSimpArgs false
set_option maxRecDepth 100000
namespace Go.VP
open Go Go.VI
theorem wdesk_loop {n : Nat} {p : Int} {l : List Msg} {C : List (List Msg)} {D : List Bs} {r : (List Bs × Int × Int × Unit) × (S_desk_Desk × Unit)} (hr : r.1.1 = D) (hD : D = C.map fun c => (encP p c).1) (hC : ∀ c ∈ C, (encP p c).2.2 = 0) (hf : C.flatten = l) (hl : l.length ≤ 100) (hn : D.length ≤ 100) (hs : ∀ m ∈ l, Small m) :
    ∀ (d m i : Nat) (o1 o2 o3 : Int), i + d = D.length → d < m → L_top_WholeDesk_0 n m l r p (C.take i).flatten ((2 * sizeD (D.take i) : Nat) : Int) i o1 o2 o3 0 (1 + (i : Int)) 0 ((sizeD D + sizeD (D.take i) : Nat) : Int) = some ((true, ()), ()) := by
  have hb : ∀ b ∈ D, b.length ≤ 65535 := fun b hb => by
    rw [hD] at hb
    obtain ⟨c, hc, rfl⟩ := List.mem_map.1 hb
    exact (p_back (hC c hc)).2
  have hle : ∀ i, sizeD (D.take i) ≤ 100 * 65535 := fun i => by
    have h1 := sizeD_le (k := 65535) (a := D.take i) (fun b hb' => hb b (List.mem_of_mem_take hb'))
    have h2 : (D.take i).length * 65535 ≤ 100 * 65535 := Nat.mul_le_mul_right _ (by rw [List.length_take]; omega)
    exact Nat.le_trans h1 h2
  have hle0 : sizeD D ≤ 100 * 65535 := by
    have h2 : D.length * 65535 ≤ 100 * 65535 := Nat.mul_le_mul_right _ hn
    exact Nat.le_trans (sizeD_le hb) h2
  have hCl : C.length = D.length := by rw [hD, List.length_map]
  intro d
  induction d with
  | zero =>
    intro m i o1 o2 o3 hd hm
    obtain ⟨m, rfl⟩ : ∃ j, m = j + 1 := ⟨m - 1, by omega⟩
    obtain rfl : i = D.length := by omega
    rw [L_top_WholeDesk_0_eq, hr, ifn (by omega), stats_is, Option.bind_some, awbT, List.take_of_length_le (by omega), List.take_of_length_le (by omega), hf, sameA_is (by omega) hs, Option.bind_some, w64 (x := 1 + (D.length : Int)) (by omega) (by omega)]
    dsimp only
    rw [ift, ift]
    refine bq_step (fun _ => ?_) (fun q => absurd rfl q)
    refine bq_step (fun _ => ?_) (fun q => absurd rfl q)
    rw [show sizeD D + sizeD D = 2 * sizeD D by omega]
    simp
  | succ d ih =>
    intro m i o1 o2 o3 hd hm
    obtain ⟨m, rfl⟩ : ∃ j, m = j + 1 := ⟨m - 1, by omega⟩
    have hi : i < D.length := by omega
    have hp : 0 ≤ (i : Int) := by omega
    have hiC : i < C.length := by omega
    have ih := ih m (i + 1) o1 o2 o3 (by omega) (by omega)
    have hDi : D[i] = (encP p (C[i])).1 := by subst hD; simp
    have he := hC _ (List.getElem_mem hiC)
    obtain ⟨b1, b2⟩ := p_back he
    have ht := sizeD_take hi
    have h1 := hle i
    have h2 := hle (i + 1)
    have hfl : (C.take (i + 1)).flatten = (C.take i).flatten ++ C[i] := by
      rw [List.take_succ_eq_append_getElem hiC, List.flatten_append]; simp
    have hlen : (C.take i).flatten.length + (C[i]).length ≤ 100 := by
      rw [← List.length_append, ← hfl]
      have : (C.take (i + 1)).flatten.length ≤ C.flatten.length := by
        conv => rhs; rw [← List.take_append_drop (i + 1) C, List.flatten_append, List.length_append]
        omega
      rw [hf] at this; omega
    have hroom : ((C.take i).flatten.length + (C[i]).length) * bo_api_Msg ≤ 35184372088832 := by
      have : ((C.take i).flatten.length + (C[i]).length) * bo_api_Msg ≤ 100 * 100000 := Nat.mul_le_mul hlen msgBo
      omega
    rw [L_top_WholeDesk_0_eq, hr, ifd (by omega), if_pos hp, Int.toNat_natCast, bind_at hi]
    rw [dparse_is ⟨by dsimp only; omega, by dsimp only; omega, by dsimp only; omega⟩ (by have := hb _ (List.getElem_mem hi); omega)]
    dsimp only
    rw [if_neg (show ¬ (0 : Int) ≠ 0 from fun c => c rfl), Option.bind_some, hDi, b1]
    dsimp only [trip]
    refine ne_step (fun q => absurd rfl q) (fun _ => ?_)
    rw [if_pos (roomB_of hroom), if_pos hp, bind_at hi, w64 (x := 2 * _) (by omega) (by omega), w64 (by omega) (by omega), w64 (x := (i : Int) + 1) (by omega) (by omega)]
    unfold bump
    rw [if_neg (show ¬ (0 : Int) ≠ 0 from fun c => c rfl)]
    dsimp only
    rw [hfl, ht, hDi, show ((i + 1 : Nat) : Int) = (i : Int) + 1 by omega] at ih
    rw [hDi]
    have e1 : ((2 * (sizeD (D.take i) + (encP p (C[i])).1.length) : Nat) : Int) = ((2 * sizeD (D.take i) : Nat) : Int) + 2 * ((encP p (C[i])).1.length : Int) := by omega
    have e2 : ((sizeD D + (sizeD (D.take i) + (encP p (C[i])).1.length) : Nat) : Int) = ((sizeD D + sizeD (D.take i) : Nat) : Int) + ((encP p (C[i])).1.length : Int) := by omega
    rw [e1, e2, show 1 + ((i : Int) + 1) = 1 + (i : Int) + 1 by omega] at ih
    exact ih
theorem wdesk_start {n m : Nat} {p : Int} {l : List Msg} {C : List (List Msg)} {D : List Bs} {r : (List Bs × Int × Int × Unit) × (S_desk_Desk × Unit)} (hr : r.1.1 = D) (hD : D = C.map fun c => (encP p c).1) (hC : ∀ c ∈ C, (encP p c).2.2 = 0) (hf : C.flatten = l) (hl : l.length ≤ 100) (hn : D.length ≤ 100) (hs : ∀ m ∈ l, Small m) (hm : D.length < m) :
    L_top_WholeDesk_0 n m l r p [] 0 0 0 0 0 0 (0 + 1) 0 (0 + (sizeD D : Int)) = some ((true, ()), ()) := by
  have := wdesk_loop (n := n) hr hD hC hf hl hn hs D.length m 0 0 0 0 (by omega) hm
  simpa [sizeD] using this
theorem wholeDesk_pure (x0 : Int) (g0 : Good_uint8 x0) (x1 : List S_api_Msg) (g1 : Good_list_api_Msg x1) (x2 : Int) (g2 : Good_uint16 x2) : g_top_WholeDesk (x0, x1, x2, ()) = some ((true, ()), ()) := by
  have g1 : ∀ m ∈ x1, Good_api_Msg m := g1.1.2
  have g2 : 0 ≤ x2 ∧ x2 ≤ 65535 := g2.1
  show h_top_WholeDesk fuel _ = _
  rw [h_top_WholeDesk_eq]
  obtain ⟨b, hb, hb'⟩ := fewA_is (a := x1) (k := 20) (by omega) (fun m hm => goodMsgA (g1 m hm))
  rw [hb, Option.bind_some]
  dsimp only
  cases b with
  | false => rw [ifnf]; exact awbT _
  | true =>
  obtain ⟨hl, hf⟩ := hb' rfl
  have hg : ∀ m ∈ x1, GoodQ m := fun m hm => goodQ (g1 m hm) (hf m hm)
  generalize IntKind.wrap .i64 (1 + IntKind.wrap .i64 (x0.tmod 4)) = p at *
  rw [ifnt, w64 (x := x2) (by omega) (by omega), dpack_is ⟨by dsimp only; omega, by dsimp only; omega, by dsimp only; omega⟩ (by omega) (fun m hm => (hg m hm).p p)]
  dsimp only
  rw [if_neg (show ¬ (0 : Int) ≠ 0 from fun c => c rfl), Option.bind_some]
  unfold packP bump
  by_cases hz : (checkP p x2 x1).2 ≠ 0
  · rw [if_pos hz]
    dsimp only [trip]
    rw [if_pos hz, stats_is]
    refine ne_step (fun _ => ?_) (fun q => absurd q hz)
    rw [Option.bind_some, awbT]
    simp
  · rw [if_neg hz]
    dsimp only [trip]
    rw [if_neg (show ¬ (0 : Int) ≠ 0 from fun c => c rfl)]
    refine ne_step (fun q => absurd rfl q) (fun _ => ?_)
    have hc := (checkP_ok (Classical.byContradiction hz)).2.2
    obtain ⟨k1, k2, k3⟩ := chunks_ok (p := p) (most := x2) x1.length x1 (Nat.le_refl _) (fun m hm => (hc m hm).2)
    have hlen : (packD p x2 x1).length ≤ x1.length := by unfold packD; rw [List.length_map]; exact k3
    exact wdesk_start (n := fuel) (C := chunks p x2 x1.length x1) (D := packD p x2 x1) (m := fuel) (p := p) (l := x1) rfl rfl (fun c hc => (fitsP_ok (k2 c hc).2).1) k1 (by omega) (by omega) (fun m hm => (hg m hm).lean.small) (fuel_ge (by omega))
end Go.VP
