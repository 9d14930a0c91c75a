import Derived.Test.YtjdlhgdklmkkhaaGreatG1KDesk
set_option linter.unusedVariables false
set_option linter.unusedSimpArgs false
set_option maxRecDepth 100000
namespace Go.Proofs
open Go.RowKit
theorem Tryz.loadB_w (a : Addr) (n : Int) (w : World) (hc : w.cell? a = some (.int .u32 n)) :
    Calls Tryz.prog 28 #[.pointer (some a)] w fun e w' => e = .returned (.bool (n != 0)) ∧ w' = w := by
  have hl := run_call_load (P := Tryz.prog) Tryz.func45 (by kernel_rfl) (by kernel_rfl) (by kernel_rfl) .u32 (by kernel_rfl) (w := w) (a := a) (x := n) hc
  go_enter Tryz.func28, Tryz.ntmps28
  go_wp2
  go_ret
  exact ⟨rfl, rfl⟩
theorem Tryz.loadI_w (a : Addr) (n : Int) (w : World) (hc : w.cell? a = some (.int .i64 n)) :
    Calls Tryz.prog 24 #[.pointer (some a)] w fun e w' => e = .returned (.int .i64 n) ∧ w' = w := by
  have hl := run_call_load (P := Tryz.prog) Tryz.func43 (by kernel_rfl) (by kernel_rfl) (by kernel_rfl) .i64 (by kernel_rfl) (w := w) (a := a) (x := n) hc
  go_enter Tryz.func24, Tryz.ntmps24
  go_wp2
  go_ret
  exact ⟨rfl, rfl⟩
theorem Tryz.addI_w (a : Addr) (n d : Int) (w : World) (hc : w.cell? a = some (.int .i64 n)) (hz : w.frozen? a = false) :
    Calls Tryz.prog 48 #[.pointer (some a), .int .i64 d] w fun e w' => e = .returned (.int .i64 (IntKind.i64.wrap (n + d))) ∧ w' = w.setCell a (.int .i64 (IntKind.i64.wrap (n + d))) := by
  have hl := run_call_add (P := Tryz.prog) Tryz.func89 (by kernel_rfl) (by kernel_rfl) (by kernel_rfl) .i64 (by kernel_rfl) (y := d) (s := IntKind.i64.wrap (n + d)) hc hz (by simp [Op.intArith])
  go_enter Tryz.func48, Tryz.ntmps48
  go_wp2
  go_ret
  rw [IntWalk.i64_left]
  exact ⟨rfl, rfl⟩
end Go.Proofs
namespace Go.VI
open Go Go.Proofs Go.RowKit
theorem x_sync_atomic_Bool_Load_ok : OkE e_sync_atomic_Bool_Load := by
  have key : ∀ (n : Int) (r : (Bool × Unit) × (S_atomic_Bool × Unit)), x_sync_atomic_Bool_Load (⟨n⟩, ()) = some r → CallOk Tryz.prog U 28 [.ptr [.int .u32 n]] (sg_sync_atomic_Bool_Load.out r) := by
    intro n r h
    injection h with h
    subst h
    refine ext_cell (callable Tryz.func28 (by kernel_rfl) (by kernel_rfl)) rfl (.inl rfl) (fun G0 w b o vs ha hk hc hz => ?_)
    cases ha
    refine (Tryz.loadB_w ⟨b, o, none⟩ n w hc).mono fun e w' ⟨he, hw⟩ => ?_
    exact ⟨_, he, fun w2 I => PC.bool _, w, rfl, rfl, rfl, rfl, .inr ⟨hw, rfl⟩⟩
  intro x r h
  exact key x.1.v r h
theorem x_sync_atomic_Int64_Load_ok : OkE e_sync_atomic_Int64_Load := by
  have key : ∀ (n : Int) (r : (Int × Unit) × (S_atomic_Int64 × Unit)), x_sync_atomic_Int64_Load (⟨n⟩, ()) = some r → CallOk Tryz.prog U 24 [.ptr [.int .i64 n]] (sg_sync_atomic_Int64_Load.out r) := by
    intro n r h
    injection h with h
    subst h
    refine ext_cell (callable Tryz.func24 (by kernel_rfl) (by kernel_rfl)) rfl (.inl rfl) (fun G0 w b o vs ha hk hc hz => ?_)
    cases ha
    refine (Tryz.loadI_w ⟨b, o, none⟩ n w hc).mono fun e w' ⟨he, hw⟩ => ?_
    exact ⟨_, he, fun w2 I => PC.int _ _ hk, w, rfl, rfl, rfl, rfl, .inr ⟨hw, rfl⟩⟩
  intro x r h
  exact key x.1.v r h
theorem x_sync_atomic_Int64_Add_ok : OkE e_sync_atomic_Int64_Add := by
  have key : ∀ (n d : Int) (r : (Int × Unit) × (S_atomic_Int64 × Unit)), x_sync_atomic_Int64_Add (⟨n⟩, d, ()) = some r → CallOk Tryz.prog U 48 [.ptr [.int .i64 n], .val false [.int .i64 d]] (sg_sync_atomic_Int64_Add.out r) := by
    intro n d r h
    injection h with h
    subst h
    refine ext_cell (callable Tryz.func48 (by kernel_rfl) (by kernel_rfl)) rfl (.inr (IntKind.has_wrap _ _)) (fun G0 w b o vs ha hk hc hz => ?_)
    cases ha with
    | val ag cs u az us j h1 h2 =>
      cases h2
      obtain ⟨c, hc1, h1⟩ := h1
      cases hc1
      rw [(pc_int h1).1]
      refine (Tryz.addI_w ⟨b, o, none⟩ n d w hc hz).mono fun e w' ⟨he, hw⟩ => ?_
      exact ⟨_, he, fun w2 I => PC.int _ _ (IntKind.has_wrap _ _), w, rfl, rfl, rfl, rfl, .inl hw⟩
  intro x r h
  exact key x.1.v x.2.1 r h
end Go.VI
