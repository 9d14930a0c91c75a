import Derived.Test.YtojlppofmjkmhaaDoorGHReadE
set_option linter.unusedVariables false
set_option linter.unusedSimpArgs false
set_option maxRecDepth 100000
namespace Go.VI
open Go Go.Proofs Go.RowKit
theorem x_text_Read_ok : OkE e_text_Read := by
  have key : ∀ (s : List UInt8) (r : (XMsg × Bool × Unit) × Unit), x_text_Read (s, ()) = some r → CallOk Tryd.prog U 13 [.val false [.str s]] (sg_text_Read.out r) := by
    intro s r h
    unfold x_text_Read at h
    dsimp only at h
    by_cases hS : s.length ≤ 1000000
    · rw [if_pos hS] at h
      injection h with h
      subst h
      refine ext_ok2 (callable Tryd.func13 (by kernel_rfl) (by kernel_rfl)) rfl (fun G0 w vs ha hi henv => ?_)
      obtain ⟨v, rfl, h1⟩ := args1 ha
      rw [pc_str h1]
      have fin : ∀ (m : XMsg) (vl vs : Value) (b : Bool) (w' : World), (readL s).getD (zeroM 0) = m → (readL s).isSome = b → w'.ownsRow w.heap.size 38 2 vl m.list.length (lRow m.list) → w'.ownsRow w.heap.size 40 2 vs m.subs.length (bRow m.subs) → (0 ≤ m.kind ∧ m.kind ≤ 14) → Nums m → Lens m → ∀ e, e = Ending.returned (.tuple #[.agg (mcells m vl vs), .bool b]) → Below w.heap.size w w' →
          ∃ u, e = .returned u ∧ Below w.heap.size w w' ∧ ∃ J : Nat → Nat → Prop, (∀ b o, J b o → w.heap.size ≤ b ∧ (w'.cell? ⟨b, o, none⟩).isSome = true) ∧ RetOk Tryd.prog U w' (fun b o => G0.I b o ∨ J b o) (sg_text_Read.out (((readL s).getD (zeroM 0), (readL s).isSome, ()), ())).ret u := fun m vl vs b w' e1 e2 hl hs hk hN hL e he hb => by
        rw [e1, e2]
        refine ⟨_, he, hb, fun b o => w.heap.size ≤ b ∧ (w'.cell? ⟨b, o, none⟩).isSome = true, fun b o h => h, ?_⟩
        have hpc := pc_of_msg (I := fun b o => G0.I b o ∨ (w.heap.size ≤ b ∧ (w'.cell? ⟨b, o, none⟩).isSome = true)) hl hs hk hN hL (fun b o h1 h2 => .inr ⟨h1, h2⟩)
        refine ⟨_, rfl, rfl, fun j a cs hj => ?_⟩
        match j, hj with
        | 0, hj => injection hj with hj; injection hj with h1 h2; subst h1; subst h2; exact ⟨_, rfl, _, rfl, rfl, hpc⟩
        | 1, hj => injection hj with hj; injection hj with h1 h2; subst h1; subst h2; exact ⟨_, rfl, _, rfl, PC.bool _⟩
        | j + 2, hj => cases hj
      refine (Tryd.Read_w s w hS henv.env henv.size).mono fun e w' ⟨hb, h⟩ => ?_
      rcases h with ⟨m, vl, vs, hr, he, hl, hs, hL⟩ | ⟨hr, he⟩
      · have hp := Go.VP.print_read hr
        have hq : bareX m = some m ∧ Nums m := by
          unfold printM at hp
          split at hp
          · rename_i hq; exact hq
          · cases hp
        have hkk := Go.VP.bare_kind hq.1
        exact fin m vl vs true w' (by rw [hr]; rfl) (by rw [hr]; rfl) hl hs ⟨by omega, by omega⟩ hq.2 hL e he hb
      · exact fin (zeroM 0) nil0 nil0 false w' (by rw [hr]; rfl) (by rw [hr]; rfl) (World.ownsRow_nil _ _ _ _) (World.ownsRow_nil _ _ _ _) ⟨by decide, by decide⟩ (Go.VP.zero_nums 0) (lens_zero 0) e he hb
    · rw [if_neg hS] at h; cases h
  intro x r h
  exact key _ _ h
end Go.VI
