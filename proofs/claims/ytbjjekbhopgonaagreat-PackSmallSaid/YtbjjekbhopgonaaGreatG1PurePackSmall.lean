import Derived.Test.YtbjjekbhopgonaaGreatG1FQ15
import Derived.Test.YtbjjekbhopgonaaGreatG1M0
import Derived.Test.YtbjjekbhopgonaaGreatG1FH
import Derived.Test.YtbjjekbhopgonaaGreatG1FQ4
import Derived.Test.YtbjjekbhopgonaaGreatG1FQ3
import Derived.Test.YtbjjekbhopgonaaGreatG1FQ2
import Derived.Test.YtbjjekbhopgonaaGreatG1M1
import Derived.Test.YtbjjekbhopgonaaGreatG1FQ0
import Derived.Test.YtbjjekbhopgonaaGreatG1FQ8
import Derived.Test.YtbjjekbhopgonaaGreatG1FGood
set_option linter.unusedVariables false
set_option linter.unusedSimpArgs false
set_option maxRecDepth 100000
namespace Go.VP
open Go Go.VI
noncomputable def firstS (p most : Int) (l : List Msg) (i : Nat) : Int := match badP (fun m => fitsP p most [m]) l i with | some j => (j : Int) | none => -1
theorem fits_more {p a b : Int} {l : List Msg} (h : a ≤ b) (hf : fitsP p a l = true) : fitsP p b l = true := by
  obtain ⟨h1, h2⟩ := fitsP_ok hf
  unfold fitsP
  exact decide_eq_true ⟨h1, by omega⟩
theorem checkP_of {p most : Int} {l : List Msg} (hp : 1 ≤ p ∧ p ≤ 4) (h : badP (rightP p) l 0 = none) : checkP p most l = match badP (fun m => fitsP p most [m]) l 0 with | some i => ((i : Int), 11) | none => (0, 0) := by
  unfold checkP
  rw [if_neg (by omega), h]; rfl
theorem packP_e (p most : Int) (l : List Msg) : (packP p most l).2 = checkP p most l := by
  unfold packP
  by_cases h : (checkP p most l).2 ≠ 0
  · rw [if_pos h]
  · rw [if_neg h]
    have h := Classical.byContradiction h
    unfold checkP at h ⊢
    split
    · rename_i q; rw [if_pos q] at h; cases h
    · rename_i q
      rw [if_neg q] at h
      cases h1 : badP (rightP p) l 0 with
      | some i => rw [h1] at h; cases h
      | none =>
        rw [h1] at h
        cases h2 : badP (fun m => fitsP p most [m]) l 0 with
        | some i => rw [h2] at h; cases h
        | none => rfl
theorem small_loop {n : Nat} {x : S_law27_Room} {p : Int} {r : (List Bs × Int × Int × Unit) × Unit} (hr : r = (trip (packP p x.most x.l), ())) (hp : 1 ≤ p ∧ p ≤ 4) (hm : 0 ≤ x.most ∧ x.most ≤ 65535) (hmo : 0 ≤ x.more ∧ x.more ≤ 255) (hl : x.l.length ≤ 50) (g : ∀ m ∈ x.l, GoodP p m) :
    ∀ (i k : Nat), i ≤ x.l.length → i < k → (∀ m ∈ x.l.drop i, rightP p m = true) → L_law27_PackSmall_0 n k x r p (firstS p x.most (x.l.drop i) i) ((i : Int) - 1) = some ((true, ()), ()) := by
  subst hr
  intro i
  induction i with
  | zero =>
    intro k hi hk hR
    obtain ⟨k, rfl⟩ : ∃ j, k = j + 1 := ⟨k - 1, by omega⟩
    rw [List.drop_zero] at hR ⊢
    have hn : badP (rightP p) x.l 0 = none := badP_ok hR
    have hc := checkP_of (most := x.most) hp hn
    have hc2 := checkP_of (most := x.most + x.more) hp hn
    rw [L_law27_PackSmall_0_eq, ifn (by omega), w64 (x := x.most) (by omega) (by omega), w64 (x := x.more) (by omega) (by omega), w64 (x := x.most + x.more) (by omega) (by omega), pack_is (by omega) g, Option.bind_some, awb27]
    dsimp +instances only [trip]
    rw [ift, packP_e, packP_e, hc, hc2]
    unfold firstS
    cases hb : badP (fun m => fitsP p x.most [m]) x.l 0 with
    | some j =>
      dsimp only
      rw [if_pos (by simp), ifn (by omega), if_pos (by simp), if_pos (by simp)]
    | none =>
      have hb2 : badP (fun m => fitsP p (x.most + x.more) [m]) x.l 0 = none := badP_ok fun m hm => fits_more (by omega) (badP_none hb m hm)
      rw [hb2]
      dsimp only
      rw [if_pos (by simp), ifd (by omega), if_neg (by simp)]
      simp
  | succ i ih =>
    intro k hi hk hR
    obtain ⟨k, rfl⟩ : ∃ j, k = j + 1 := ⟨k - 1, by omega⟩
    have hil : i < x.l.length := by omega
    have hgi := g _ (List.getElem_mem hil)
    rw [show ((i + 1 : Nat) : Int) - 1 = (i : Int) by omega, L_law27_PackSmall_0_eq, ifd (by omega), if_pos (by omega), Int.toNat_natCast, bind_at hil, rsright_p hgi, Option.bind_some]
    dsimp only
    cases hr : rightP p x.l[i] with
    | false =>
      rw [ifnf, awb27]
      dsimp +instances only [trip]
      have hne : ∃ j, badP (rightP p) x.l 0 = some j := by
        cases hb : badP (rightP p) x.l 0 with
        | some j => exact ⟨j, rfl⟩
        | none => have := badP_none hb _ (List.getElem_mem hil); rw [hr] at this; cases this
      obtain ⟨j, hj⟩ := hne
      rw [ift, packP_e]
      have : checkP p x.most x.l = ((j : Int), 1) := by unfold checkP; rw [if_neg (by omega), hj]
      rw [this]; rfl
    | true =>
      have := ih k (by omega) (by omega) (fun m hm => by
        rw [List.drop_eq_getElem_cons hil] at hm
        rcases List.mem_cons.1 hm with rfl | hm
        · exact hr
        · exact hR m hm)
      rw [ifnt, w64 (x := (i : Int) + 1) (by omega) (by omega), w64 (x := (i : Int) - 1) (by omega) (by omega), if_pos (by omega), show ((i : Int) + 1).toNat = i + 1 by omega, one_at hil, w64 (x := x.most) (by omega) (by omega), pfits_is (fun m hm => by rw [List.mem_singleton.1 hm]; exact hgi) (by simp), Option.bind_some]
      dsimp only
      unfold firstS at this ⊢
      rw [List.drop_eq_getElem_cons hil, badP] at this
      cases hf : fitsP p x.most [x.l[i]] with
      | false => rw [hf, iff_] at this; rw [ifnf]; exact this
      | true => rw [hf, ift] at this; rw [ifnt]; exact this
theorem packSmall_pure (x0 : S_law27_Room) (g0 : Good_law27_Room x0) : g_law27_PackSmall (x0, ()) = some ((true, ()), ()) := by
  obtain ⟨gp, gl, gm, gr, _⟩ := g0
  have gl : ∀ m ∈ x0.l, Good_api_Msg m := gl.2
  have gm : 0 ≤ x0.most ∧ x0.most ≤ 65535 := gm
  have gr := has8.1 gr
  have hk := kind4 (has8.1 gp)
  show h_law27_PackSmall fuel _ = _
  rw [h_law27_PackSmall_eq]
  obtain ⟨b, hb, hb'⟩ := fewA_is (a := x0.l) (k := 20) (by omega) (fun m hm => goodMsgA (gl m hm))
  rw [hb, Option.bind_some]
  dsimp only
  cases b with
  | false => rw [ifnf]; exact awb27 _
  | true =>
  obtain ⟨hl, hf⟩ := hb' rfl
  have hg : ∀ m ∈ x0.l, GoodQ m := fun m hm => goodQ (gl m hm) (hf m hm)
  generalize IntKind.wrap .i64 (1 + IntKind.wrap .i64 (x0.p.tmod 4)) = p at *
  rw [ifnt, w64 (x := x0.most) (by omega) (by omega), pack_is (by omega) (fun m hm => (hg m hm).p p), Option.bind_some, w64 (x := (x0.l.length : Int) - 1) (by omega) (by omega)]
  have := small_loop (n := fuel) (x := x0) rfl hk gm gr (by omega) (fun m hm => (hg m hm).p p) x0.l.length fuel (Nat.le_refl _) (fuel_ge (by omega)) (fun m hm => by rw [List.drop_length] at hm; cases hm)
  rw [List.drop_length] at this
  exact this
end Go.VP
