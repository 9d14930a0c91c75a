import Derived.Test.YtojlppofmjkmhaaDoorGHReadQ
set_option linter.unusedVariables false
set_option linter.unusedSimpArgs false
set_option maxRecDepth 100000
namespace Go.VI
open Go Go.Proofs Go.RowKit
theorem x_ref29_Read_ok : OkE e_ref29_Read := by
  have key : ∀ (s : List UInt8) (r : (XMsg × Bool × Unit) × Unit), x_ref29_Read (s, ()) = some r → CallOk Tryd.prog U 14 [.val false [.str s]] (sg_ref29_Read.out r) := by
    intro s r h
    unfold x_ref29_Read at h
    dsimp only at h
    by_cases hS : s.length ≤ 1000
    · rw [if_pos hS] at h
      injection h with h
      subst h
      refine ext_ok2 (callable Tryd.func14 (by kernel_rfl) (by kernel_rfl)) rfl (fun G0 w vs ha hi henv => ?_)
      obtain ⟨v, rfl, h1⟩ := args1 ha
      rw [pc_str h1]
      have fin : ∀ (m : XMsg) (vl vs : Value) (b : Bool) (w' : World), w'.ownsRow w.heap.size 38 2 vl m.list.length (lRow m.list) → w'.ownsRow w.heap.size 40 2 vs m.subs.length (bRow m.subs) → Go.VP.QB 1000 m → ∀ e, e = Ending.returned (.tuple #[.agg (mcells m vl vs), .bool b]) → Below w.heap.size w w' →
          ∃ u, e = .returned u ∧ Below w.heap.size w w' ∧ ∃ J : Nat → Nat → Prop, (∀ b o, J b o → w.heap.size ≤ b ∧ (w'.cell? ⟨b, o, none⟩).isSome = true) ∧ RetOk Tryd.prog U w' (fun b o => G0.I b o ∨ J b o) (sg_ref29_Read.out ((m, b, ()), ())).ret u := fun m vl vs b w' hl hs hQ e he hb => by
        refine ⟨_, he, hb, fun b o => w.heap.size ≤ b ∧ (w'.cell? ⟨b, o, none⟩).isSome = true, fun b o h => h, ?_⟩
        have hpc := pc_of_msgQ (I := fun b o => G0.I b o ∨ (w.heap.size ≤ b ∧ (w'.cell? ⟨b, o, none⟩).isSome = true)) hl hs hQ (fun b o h1 h2 => .inr ⟨h1, h2⟩)
        refine ⟨_, rfl, rfl, fun j a cs hj => ?_⟩
        match j, hj with
        | 0, hj => injection hj with hj; injection hj with h1 h2; subst h1; subst h2; exact ⟨_, rfl, _, rfl, rfl, hpc⟩
        | 1, hj => injection hj with hj; injection hj with h1 h2; subst h1; subst h2; exact ⟨_, rfl, _, rfl, PC.bool _⟩
        | j + 2, hj => cases hj
      refine (Tryd.ReadQ_w s w hS henv.env henv.size).mono fun e w' ⟨hb, h⟩ => ?_
      rcases h with ⟨vl, vs, hr, he, hl, hs⟩ | ⟨hr, he⟩
      · rw [if_pos hr]
        have hQ : Go.VP.QB 1000 (foldQ s) := by
          have := Go.VP.qb_line hS (splitC 32 s).length (Go.VP.kind_rng ((splitC 32 s).getD 0 []))
          rw [List.take_length] at this
          exact this
        exact fin (foldQ s) vl vs true w' hl hs hQ e he hb
      · rw [if_neg hr]
        exact fin (zeroM 0) nil0 nil0 false w' (World.ownsRow_nil _ _ _ _) (World.ownsRow_nil _ _ _ _) ((Go.VP.qb_zero ⟨by decide, by decide⟩).mono (by decide)) e he hb
    · rw [if_neg hS] at h; cases h
  intro x r h
  exact key _ _ h
end Go.VI
