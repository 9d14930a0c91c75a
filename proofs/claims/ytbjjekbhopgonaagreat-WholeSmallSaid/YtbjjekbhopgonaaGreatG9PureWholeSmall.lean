import Derived.Test.YtbjjekbhopgonaaGreatG9FQ16
import Derived.Test.YtbjjekbhopgonaaGreatG9M0
import Derived.Test.YtbjjekbhopgonaaGreatG9FH
import Derived.Test.YtbjjekbhopgonaaGreatG9FQ4
import Derived.Test.YtbjjekbhopgonaaGreatG9FQ3
import Derived.Test.YtbjjekbhopgonaaGreatG9FQ2
import Derived.Test.YtbjjekbhopgonaaGreatG9M1
import Derived.Test.YtbjjekbhopgonaaGreatG9FQ0
import Derived.Test.YtbjjekbhopgonaaGreatG9FQ8
import Derived.Test.YtbjjekbhopgonaaGreatG9FGood
set_option linter.unusedVariables false
set_option linter.unusedSimpArgs false
set_option maxRecDepth 100000
namespace Go.VP
open Go Go.VI
noncomputable def firstW (p most : Int) (l : List Msg) (i : Nat) : Int := match badP (fun m => fitsP p most [m]) l i with | some j => (j : Int) | none => -1
theorem packP_two {p most : Int} {l : List Msg} (hp : 1 ≤ p ∧ p ≤ 4) (h : badP (rightP p) l 0 = none) : (packP p most l).2 = match badP (fun m => fitsP p most [m]) l 0 with | some i => ((i : Int), 11) | none => (0, 0) := by
  have e : checkP p most l = match badP (fun m => fitsP p most [m]) l 0 with | some i => ((i : Int), 11) | none => (0, 0) := by
    unfold checkP
    rw [if_neg (by omega), h]; rfl
  unfold packP
  rw [e]
  cases hb : badP (fun m => fitsP p most [m]) l 0 with
  | some i => dsimp only; rw [if_pos (by simp)]
  | none => dsimp only; rw [if_neg (by simp)]
theorem wsmall_loop {n : Nat} {p most : Int} {l : List Msg} (hp : 1 ≤ p ∧ p ≤ 4) (hm : 0 ≤ most ∧ most ≤ 65535) (hl : l.length ≤ 50) (g : ∀ m ∈ l, GoodP p m) (hF : ∀ m ∈ l, Few m) :
    ∀ (i k : Nat), i ≤ l.length → i < k → (∀ m ∈ l.drop i, rightP p m = true) → L_top_WholeSmall_0 n k l most p (firstW p most (l.drop i) i) ((i : Int) - 1) = some ((true, ()), ()) := by
  intro i
  induction i with
  | zero =>
    intro k hi hk hR
    obtain ⟨k, rfl⟩ : ∃ j, k = j + 1 := ⟨k - 1, by omega⟩
    rw [List.drop_zero] at hR ⊢
    have hc := packP_two (most := most) hp (badP_ok hR)
    rw [L_top_WholeSmall_0_eq, ifn (by omega), w64 (x := most) (by omega) (by omega), pack_is (by omega) g, Option.bind_some, awbT]
    dsimp +instances only [trip]
    rw [ift, hc]
    unfold firstW
    cases hb : badP (fun m => fitsP p most [m]) l 0 with
    | some j =>
      dsimp only
      rw [if_pos (by simp), if_pos (by simp), ifn (by omega)]
      simp
    | none =>
      dsimp only
      rw [if_pos (by simp), if_pos (by simp), ifd (by omega)]
  | succ i ih =>
    intro k hi hk hR
    obtain ⟨k, rfl⟩ : ∃ j, k = j + 1 := ⟨k - 1, by omega⟩
    have hil : i < l.length := by omega
    have hm1 := List.getElem_mem hil
    have hgi := g _ hm1
    rw [show ((i + 1 : Nat) : Int) - 1 = (i : Int) by omega, L_top_WholeSmall_0_eq, ifd (by omega), if_pos (by omega), Int.toNat_natCast, bind_at hil, rsright_p hgi, Option.bind_some]
    dsimp only
    cases hr : rightP p l[i] with
    | false => rw [ifnf]; exact awbT _
    | true =>
      have h1 := p_one hr (hF _ hm1)
      have := ih k (by omega) (by omega) (fun m hm => by
        rw [List.drop_eq_getElem_cons hil] at hm
        rcases List.mem_cons.1 hm with rfl | hm
        · exact hr
        · exact hR m hm)
      unfold firstW at this ⊢
      rw [List.drop_eq_getElem_cons hil, badP] at this
      rw [ifnt, w64 (x := (i : Int) + 1) (by omega) (by omega), w64 (x := (i : Int) - 1) (by omega) (by omega), if_pos (by omega), show ((i : Int) + 1).toNat = i + 1 by omega, one_at hil, senc_is (fun m hm => by rw [List.mem_singleton.1 hm]; exact hgi) (by simp) (fun _ => by simp), Option.bind_some, w64 (x := most) (by omega) (by omega)]
      dsimp only [trip]
      refine ne_step (fun q => absurd h1 q) (fun _ => ?_)
      refine dq_step (fun q => ?_) (fun q => ?_)
      · have hf : fitsP p most [l[i]] = false := by unfold fitsP; exact decide_eq_false (fun c => by have := c.2; omega)
        rw [hf, iff_] at this; exact this
      · have hf : fitsP p most [l[i]] = true := by unfold fitsP; exact decide_eq_true ⟨h1, by omega⟩
        rw [hf, ift] at this; exact this
theorem wholeSmall_pure (x0 : Int) (g0 : Good_uint8 x0) (x1 : List S_api_Msg) (g1 : Good_list_api_Msg x1) (x2 : Int) (g2 : Good_uint16 x2) : g_top_WholeSmall (x0, x1, x2, ()) = some ((true, ()), ()) := by
  have g1 : ∀ m ∈ x1, Good_api_Msg m := g1.1.2
  have g2 : 0 ≤ x2 ∧ x2 ≤ 65535 := g2.1
  have hk := kind4 (has8.1 g0.1)
  show h_top_WholeSmall fuel _ = _
  rw [h_top_WholeSmall_eq]
  obtain ⟨b, hb, hb'⟩ := fewA_is (a := x1) (k := 20) (by omega) (fun m hm => goodMsgA (g1 m hm))
  rw [hb, Option.bind_some]
  dsimp only
  cases b with
  | false => rw [ifnf]; exact awbT _
  | true =>
  obtain ⟨hl, hf⟩ := hb' rfl
  have hg : ∀ m ∈ x1, GoodQ m := fun m hm => goodQ (g1 m hm) (hf m hm)
  generalize IntKind.wrap .i64 (1 + IntKind.wrap .i64 (x0.tmod 4)) = p at *
  rw [ifnt, w64 (x := (x1.length : Int) - 1) (by omega) (by omega)]
  have := wsmall_loop (n := fuel) (l := x1) (most := x2) hk g2 (by omega) (fun m hm => (hg m hm).p p) hf x1.length fuel (Nat.le_refl _) (fuel_ge (by omega)) (fun m hm => by rw [List.drop_length] at hm; cases hm)
  rw [List.drop_length] at this
  exact this
end Go.VP
