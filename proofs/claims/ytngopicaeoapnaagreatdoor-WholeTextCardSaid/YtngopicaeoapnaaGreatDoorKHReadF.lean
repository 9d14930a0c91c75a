import Derived.Test.YtngopicaeoapnaaGreatDoorKHReadE
set_option linter.unusedVariables false
set_option linter.unusedSimpArgs false
set_option maxRecDepth 100000
namespace Go.VI
open Go Go.Proofs Go.RowKit
theorem dw7 : OkE ch2 := by
  have key : ∀ (s : List UInt8) (r : (aa2 × Bool × Unit) × Unit), aY1 (s, ()) = some r → au8 Tryz.prog U 8 [.val false [.str s]] (bT9.out r) := by
    intro s r h
    unfold aY1 at h
    dsimp only at h
    by_cases hS : s.length ≤ 1000000
    · rw [if_pos hS] at h
      injection h with h
      subst h
      refine ee4 (aC7 Tryz.func8 (by kernel_rfl) (by kernel_rfl)) rfl (fun G0 w vs ha hi henv => ?_)
      obtain ⟨v, rfl, h1⟩ := eJ5 ha
      rw [aq6 h1]
      have fin : ∀ (m : aa2) (vl vs : Value) (b : Bool) (w' : World), (aB6 s).getD (ak6 0) = m → (aB6 s).isSome = b → w'.ownsRow w.heap.size 73 2 vl m.list.length (df1 m.list) → w'.ownsRow w.heap.size 75 2 vs m.subs.length (df2 m.subs) → (0 ≤ m.kind ∧ m.kind ≤ 14) → ad7 m → df3 m → ∀ e, e = Ending.returned (.tuple #[.agg (ae2 m vl vs), .bool b]) → Below w.heap.size w w' →
          ∃ u, e = .returned u ∧ Below w.heap.size w w' ∧ ∃ J : Nat → Nat → Prop, (∀ b o, J b o → w.heap.size ≤ b ∧ (w'.cell? ⟨b, o, none⟩).isSome = true) ∧ ay5 Tryz.prog U w' (fun b o => G0.I b o ∨ J b o) (bT9.out (((aB6 s).getD (ak6 0), (aB6 s).isSome, ()), ())).ret u := fun m vl vs b w' e1 e2 hl hs hk hN hL e he hb => by
        rw [e1, e2]
        refine ⟨_, he, hb, fun b o => w.heap.size ≤ b ∧ (w'.cell? ⟨b, o, none⟩).isSome = true, fun b o h => h, ?_⟩
        have hpc := cO8 (I := fun b o => G0.I b o ∨ (w.heap.size ≤ b ∧ (w'.cell? ⟨b, o, none⟩).isSome = true)) hl hs hk hN hL (fun b o h1 h2 => .inr ⟨h1, h2⟩)
        refine ⟨_, rfl, rfl, fun j a cs hj => ?_⟩
        match j, hj with
        | 0, hj => injection hj with hj; injection hj with h1 h2; subst h1; subst h2; exact ⟨_, rfl, _, rfl, rfl, hpc⟩
        | 1, hj => injection hj with hj; injection hj with h1 h2; subst h1; subst h2; exact ⟨_, rfl, _, rfl, PC.bool _⟩
        | j + 2, hj => cases hj
      refine (Tryz.Read_w s w hS henv.env henv.size).mono fun e w' ⟨hb, h⟩ => ?_
      rcases h with ⟨m, vl, vs, hr, he, hl, hs, hL⟩ | ⟨hr, he⟩
      · have hp := Go.VP.print_read hr
        have hq : aj9 m = some m ∧ ad7 m := by
          unfold ai4 at hp
          split at hp
          · rename_i hq; exact hq
          · cases hp
        have hkk := Go.VP.bare_kind hq.1
        exact fin m vl vs true w' (by rw [hr]; rfl) (by rw [hr]; rfl) hl hs ⟨by omega, by omega⟩ hq.2 hL e he hb
      · exact fin (ak6 0) au6 au6 false w' (by rw [hr]; rfl) (by rw [hr]; rfl) (World.ownsRow_nil _ _ _ _) (World.ownsRow_nil _ _ _ _) ⟨by decide, by decide⟩ (Go.VP.zero_nums 0) (dC4 0) e he hb
    · rw [if_neg hS] at h; cases h
  intro x r h
  exact key _ _ h
end Go.VI
