import Derived.Test.YtngopicaeoapnaaGreatDoorKHPrintG
import Derived.Test.YtngopicaeoapnaaGreatDoorKM0
set_option linter.unusedVariables false
set_option linter.unusedSimpArgs false
set_option maxRecDepth 100000
namespace Go.VI
open Go Go.Proofs Go.RowKit
theorem am3 {n : Int} (h : IntKind.has .i64 n) : -9223372036854775808 ≤ n ∧ n ≤ 9223372036854775807 := Go.VP.has64.1 h
theorem dp4 {w : World} {I : Nat → Nat → Prop} {α : Type} {e : Nat} {enc2 : α → CV U.τ × CV U.τ} {cl : α → Value × Value} {P2 : α → Prop} {c : CV U.τ} {l : List α} {v : Value} (hsz : Tryz.prog.cellsOf e = 2)
    (hc : cont c = some (e, l.map (fun d => [(enc2 d).1, (enc2 d).2]), .ro)) (hcl : ∀ d a b, PC Tryz.prog U w I (enc2 d).1 a → PC Tryz.prog U w I (enc2 d).2 b → (a, b) = cl d ∧ P2 d) (h : PC Tryz.prog U w I c v) :
    av0 w v (l.map cl) ∧ ∀ d ∈ l, P2 d := by
  obtain ⟨_, _, h⟩ := h.slice hc
  rcases h with ⟨h0, hv⟩ | ⟨_, h0, p, cap, hv⟩ | ⟨b, off, cap, hv, hcap, _, hC⟩
  · have h0 := List.map_eq_nil_iff.1 h0
    subst h0
    exact ⟨.inl ⟨rfl, hv⟩, by simp⟩
  · have h0 := List.map_eq_nil_iff.1 h0
    subst h0
    exact ⟨.inr (.inl ⟨rfl, p, cap, hv⟩), by simp⟩
  · rw [List.length_map] at hv hcap
    rw [hsz] at hC
    cases l with
    | nil => exact ⟨.inr (.inl ⟨rfl, _, _, hv⟩), by simp⟩
    | cons d0 r =>
      have at_ : ∀ (i : Nat) (d : α), (d0 :: r)[i]? = some d → (w.cell? ⟨b, off + i * 2, none⟩ = some (cl d).1 ∧ w.cell? ⟨b, off + i * 2 + 1, none⟩ = some (cl d).2) ∧ P2 d := fun i d hi => by
        have hcs : ((d0 :: r).map (fun d => [(enc2 d).1, (enc2 d).2]))[i]? = some [(enc2 d).1, (enc2 d).2] := by rw [List.getElem?_map, hi]; rfl
        obtain ⟨u0, h0, p0⟩ := hC.cell i _ 0 (enc2 d).1 hcs rfl
        obtain ⟨u1, h1, p1⟩ := hC.cell i _ 1 (enc2 d).2 hcs rfl
        obtain ⟨e1, e2⟩ := hcl d u0 u1 p0 p1
        rw [Nat.add_zero] at h0
        rw [h0, h1, ← e1]
        exact ⟨⟨rfl, rfl⟩, e2⟩
      refine ⟨.inr (.inr ⟨b, off, cap, by rw [List.length_map]; exact hv, by rw [List.length_map]; exact hcap, ⟨?_, fun i x hi => ?_, fun i x hi => ?_⟩⟩), fun d hd => ?_⟩
      · exact World.block_lt_of_cell? w _ (at_ 0 d0 rfl).1.1
      · rw [List.getElem?_map] at hi
        obtain ⟨d, hd, rfl⟩ := Option.map_eq_some_iff.1 hi
        exact (at_ i d hd).1.1
      · rw [List.getElem?_map] at hi
        obtain ⟨d, hd, rfl⟩ := Option.map_eq_some_iff.1 hi
        exact (at_ i d hd).1.2
      · obtain ⟨i, hi⟩ := List.getElem?_of_mem hd
        exact (at_ i d hi).2
theorem ea7 {w : World} {I : Nat → Nat → Prop} {l : List ac1} {v : Value} (h : PC Tryz.prog U w I (.sl 73 l .ro) v) :
    av0 w v (l.map bo5) ∧ ∀ d ∈ l, -9223372036854775808 ≤ d.seq ∧ d.seq ≤ 9223372036854775807 :=
  dp4 (e := 73) (enc2 := fun d => (.str d.addr, .int .i64 d.seq)) (by kernel_rfl) rfl (fun d a b ha hb => by
    rw [aq6 ha, (ae6 hb).1]; exact ⟨rfl, am3 (ae6 hb).2⟩) h
theorem el4 {w : World} {I : Nat → Nat → Prop} {l : List aa8} {v : Value} (h : PC Tryz.prog U w I (.sl 75 l .ro) v) :
    av0 w v (l.map bo6) ∧ ∀ d ∈ l, -9223372036854775808 ≤ d.type_ ∧ d.type_ ≤ 9223372036854775807 :=
  dp4 (e := 75) (enc2 := fun d => (.int .i64 d.type_, .str d.data)) (by kernel_rfl) rfl (fun d a b ha hb => by
    rw [aq6 hb, (ae6 ha).1]; exact ⟨rfl, am3 (ae6 ha).2⟩) h
theorem eu8 {w : World} {I : Nat → Nat → Prop} {m : aa2} {us : Array Value} (hu : us.size = 25) (hv : ∀ (j : Nat) c, (ab2.enc false m : List (CV U.τ))[j]? = some c → ∃ x, us[j]? = some x ∧ PC Tryz.prog U w I c x) :
    ∃ vl vs, us = ae2 m vl vs ∧ av0 w vl (m.list.map bo5) ∧ av0 w vs (m.subs.map bo6) ∧ el3 m := by
  obtain ⟨x0, h0, p0⟩ := hv 0 _ rfl
  obtain ⟨x1, h1, p1⟩ := hv 1 _ rfl
  obtain ⟨x2, h2, p2⟩ := hv 2 _ rfl
  obtain ⟨x3, h3, p3⟩ := hv 3 _ rfl
  obtain ⟨x4, h4, p4⟩ := hv 4 _ rfl
  obtain ⟨x5, h5, p5⟩ := hv 5 _ rfl
  obtain ⟨x6, h6, p6⟩ := hv 6 _ rfl
  obtain ⟨x7, h7, p7⟩ := hv 7 _ rfl
  obtain ⟨x8, h8, p8⟩ := hv 8 _ rfl
  obtain ⟨x9, h9, p9⟩ := hv 9 _ rfl
  obtain ⟨x10, h10, p10⟩ := hv 10 _ rfl
  obtain ⟨x11, h11, p11⟩ := hv 11 _ rfl
  obtain ⟨x12, h12, p12⟩ := hv 12 _ rfl
  obtain ⟨x13, h13, p13⟩ := hv 13 _ rfl
  obtain ⟨x14, h14, p14⟩ := hv 14 _ rfl
  obtain ⟨x15, h15, p15⟩ := hv 15 _ rfl
  obtain ⟨x16, h16, p16⟩ := hv 16 _ rfl
  obtain ⟨x17, h17, p17⟩ := hv 17 _ rfl
  obtain ⟨x18, h18, p18⟩ := hv 18 _ rfl
  obtain ⟨x19, h19, p19⟩ := hv 19 _ rfl
  obtain ⟨x20, h20, p20⟩ := hv 20 _ rfl
  obtain ⟨x21, h21, p21⟩ := hv 21 _ rfl
  obtain ⟨x22, h22, p22⟩ := hv 22 _ rfl
  obtain ⟨x23, h23, p23⟩ := hv 23 _ rfl
  obtain ⟨x24, h24, p24⟩ := hv 24 _ rfl
  have k0 := am3 (ae6 p0).2
  rw [(ae6 p0).1] at h0
  have k1 := am3 (ae6 p1).2
  rw [(ae6 p1).1] at h1
  have k2 := am3 (ae6 p2).2
  rw [(ae6 p2).1] at h2
  rw [aq6 p3] at h3
  have k4 := am3 (ae6 p4).2
  rw [(ae6 p4).1] at h4
  have k5 := am3 (ae6 p5).2
  rw [(ae6 p5).1] at h5
  rw [aq6 p6] at h6
  have k7 := am3 (ae6 p7).2
  rw [(ae6 p7).1] at h7
  have k8 := am3 (ae6 p8).2
  rw [(ae6 p8).1] at h8
  rw [aq6 p9] at h9
  have k10 := am3 (ae6 p10).2
  rw [(ae6 p10).1] at h10
  rw [aq6 p11] at h11
  have k12 := am3 (ae6 p12).2
  rw [(ae6 p12).1] at h12
  have k13 := am3 (ae6 p13).2
  rw [(ae6 p13).1] at h13
  have k14 := am3 (ae6 p14).2
  rw [(ae6 p14).1] at h14
  have k15 := am3 (ae6 p15).2
  rw [(ae6 p15).1] at h15
  have k16 := am3 (ae6 p16).2
  rw [(ae6 p16).1] at h16
  have k17 := am3 (ae6 p17).2
  rw [(ae6 p17).1] at h17
  have k18 := am3 (ae6 p18).2
  rw [(ae6 p18).1] at h18
  rw [aq6 p19] at h19
  rw [aq6 p20] at h20
  have k22 := am3 (ae6 p22).2
  rw [(ae6 p22).1] at h22
  rw [aq6 p23] at h23
  obtain ⟨hl, il⟩ := ea7 p21
  obtain ⟨hs, is_⟩ := el4 p24
  refine ⟨x21, x24, Array.ext_getElem? (fun i => ?_), hl, hs, ⟨k0, k1, k2, k4, k5, k7, k8, k10, k12, k13, k14, k15, k16, k17, k18, k22, il, is_⟩⟩
  match i with
  | 0 => exact h0
  | 1 => exact h1
  | 2 => exact h2
  | 3 => exact h3
  | 4 => exact h4
  | 5 => exact h5
  | 6 => exact h6
  | 7 => exact h7
  | 8 => exact h8
  | 9 => exact h9
  | 10 => exact h10
  | 11 => exact h11
  | 12 => exact h12
  | 13 => exact h13
  | 14 => exact h14
  | 15 => exact h15
  | 16 => exact h16
  | 17 => exact h17
  | 18 => exact h18
  | 19 => exact h19
  | 20 => exact h20
  | 21 => exact h21
  | 22 => exact h22
  | 23 => exact h23
  | 24 => exact h24
  | i + 25 =>
    rw [Array.getElem?_eq_none (by omega), Array.getElem?_eq_none (by show 25 ≤ i + 25; omega)]
theorem eu9 {m : aa2} (h : bz8 m) : (an3 m.kind ++ ad5 m fsM).length ≤ 10000000000 := by
  have h1 := dC3 m.kind
  have h2 := de8 (m := m) fsM (fun f hf => ⟨dw6 h f hf, eJ9 f hf⟩)
  rw [show fsM.length = 24 from rfl] at h2
  rw [List.length_append]; omega
theorem ee4 {f : Nat} {ar : List (Arg U.τ)} {out : AV U.τ} (hc : ∀ (vs : Array Value) w, (callFunc f vs).run Tryz.prog w = .ok (.enter f vs) w) (hp : af8 ar = [])
    (h : ∀ (G0 : ab7) (w : World) (vs : List Value), ag6 Tryz.prog U w G0.I G0.who G0.loc ar vs 0 → (∀ b o, G0.I b o → (w.cell? ⟨b, o, none⟩).isSome = true) → cq7 U G0 w →
      Calls Tryz.prog f vs.toArray w fun e w' => ∃ u, e = .returned u ∧ Below w.heap.size w w' ∧ ∃ J : Nat → Nat → Prop, (∀ b o, J b o → w.heap.size ≤ b ∧ (w'.cell? ⟨b, o, none⟩).isSome = true) ∧ ay5 Tryz.prog U w' (fun b o => G0.I b o ∨ J b o) out u) : au8 Tryz.prog U f ar ⟨out, []⟩ := by
  refine ⟨hc, fun G0 w vs ha hi hw henv => (h G0 w vs ha hi henv).mono fun e w' hh => ?_⟩
  obtain ⟨u, he, hb, J, hJ, hr⟩ := hh
  have hcell : ∀ b o, G0.I b o → w'.cell? ⟨b, o, none⟩ = w.cell? ⟨b, o, none⟩ := fun b o hI => by
    obtain ⟨v, hv⟩ := Option.isSome_iff_exists.1 (hi b o hI)
    exact hb.cell (p := ⟨b, o, none⟩) (World.block_lt_of_cell? w _ hv)
  refine ⟨u, ⟨fun b o => G0.I b o ∨ J b o, G0.loc, G0.who⟩, he, ?_, hr, by rw [hp], fun j cs hj => by simp at hj, fun j cs hj => by rw [hp] at hj; simp at hj, fun b o hI => ?_, fun b L hL => Nat.lt_of_lt_of_le (hw b L hL) hb.size⟩
  · exact ⟨hb.os, hb.tape, hb.output, hb.size, fun b hlt _ => hb.block b hlt, fun b o hI => ⟨.inl hI, hcell b o hI⟩, fun b o hI => by
      rcases hI with hI | hI
      · exact .inl hI
      · exact .inr (.inl (hJ b o hI).1), fun b L hL => .inr (by rw [hL]; rfl)⟩
  · rcases hI with hI | hI
    · show (w'.cell? ⟨b, o, none⟩).isSome = true
      rw [hcell b o hI]; exact hi b o hI
    · exact (hJ b o hI).2
theorem dp5 : OkE bT8 := by
  have key : ∀ (m : aa2) (r : (List UInt8 × Bool × Unit) × Unit), aR5 (m, ()) = some r → au8 Tryz.prog U 7 [.val true (ab2.enc false m)] (bH7.out r) := by
    intro m r h
    unfold aR5 at h
    dsimp only at h
    by_cases hS : bz8 m
    · rw [if_pos hS] at h
      injection h with h
      subst h
      refine ee4 (aC7 Tryz.func7 (by kernel_rfl) (by kernel_rfl)) rfl (fun G0 w vs ha hi henv => ?_)
      obtain ⟨us, rfl, hu, hv⟩ : ∃ us, vs = [.agg us] ∧ us.size = 25 ∧ ∀ (j : Nat) c, (ab2.enc false m : List (CV U.τ))[j]? = some c → ∃ x, us[j]? = some x ∧ PC Tryz.prog U w G0.I c x := by
        cases ha with
        | val _ _ u1 _ vs1 _ h1 ha =>
        cases ha with
        | nil =>
        obtain ⟨us, rfl, h2, h3⟩ := h1
        exact ⟨us, rfl, h2, h3⟩
      obtain ⟨vl, vs', hus, hl, hs, hI⟩ := eu8 hu hv
      have fin : ∀ (t : List UInt8) (b : Bool), (t.length : Int) ≤ 9223372036854775807 → (ai4 m).getD [] = t → (ai4 m).isSome = b → ∀ e w', (e = Ending.returned (.tuple #[.string ⟨⟨t⟩⟩, .bool b]) ∧ Below w.heap.size w w') →
          ∃ u, e = .returned u ∧ Below w.heap.size w w' ∧ ∃ J : Nat → Nat → Prop, (∀ b o, J b o → w.heap.size ≤ b ∧ (w'.cell? ⟨b, o, none⟩).isSome = true) ∧ ay5 Tryz.prog U w' (fun b o => G0.I b o ∨ J b o) (bH7.out (((ai4 m).getD [], (ai4 m).isSome, ()), ())).ret u := fun t b ht e1 e2 e w' ⟨he, hb⟩ => by
        rw [e1, e2]
        refine ⟨_, he, hb, fun _ _ => False, fun _ _ h => h.elim, ?_⟩
        refine ⟨_, rfl, rfl, fun j a cs hj => ?_⟩
        match j, hj with
        | 0, hj => injection hj with hj; injection hj with h1 h2; subst h1; subst h2; exact ⟨_, rfl, _, rfl, PC.str _ ht⟩
        | 1, hj => injection hj with hj; injection hj with h1 h2; subst h1; subst h2; exact ⟨_, rfl, _, rfl, PC.bool _⟩
        | j + 2, hj => cases hj
      have none_ : ai4 m = none → (ai4 m).getD [] = [] ∧ (ai4 m).isSome = false := fun h => by rw [h]; exact ⟨rfl, rfl⟩
      cases hB : Go.VP.bareB m with
      | false =>
        have hp : ai4 m = none := by unfold ai4; rw [if_neg (fun h => by rw [bN2.2 h.1] at hB; cases hB)]
        exact (Tryz.Print_no m us hu G0.I w hv hi henv.env henv.size hB).mono (fin [] false (by simp) (none_ hp).1 (none_ hp).2)
      | true =>
        by_cases hN : ad7 m
        · have hp : ai4 m = some (an3 m.kind ++ ad5 m fsM) := by unfold ai4; rw [if_pos ⟨bN2.1 hB, hN⟩]
          have hpl := eu9 hS
          refine (Tryz.Print_yes m us hu vl vs' G0.I w hus hv hi hl hs hI hS henv.env henv.size hB).mono fun e w' ⟨h1, h2⟩ => fin (an3 m.kind ++ ad5 m fsM) true (by omega) (by rw [hp]; rfl) (by rw [hp]; rfl) e w' ⟨?_, h2⟩
          rcases h1 with ⟨_, h1⟩ | ⟨h1, _⟩
          · exact h1
          · exact absurd hN h1
        · have hp : ai4 m = none := by unfold ai4; rw [if_neg (fun h => hN h.2)]
          refine (Tryz.Print_yes m us hu vl vs' G0.I w hus hv hi hl hs hI hS henv.env henv.size hB).mono fun e w' ⟨h1, h2⟩ => fin [] false (by simp) (none_ hp).1 (none_ hp).2 e w' ⟨?_, h2⟩
          rcases h1 with ⟨h1, _⟩ | ⟨_, h1⟩
          · exact absurd h1 hN
          · exact h1
    · rw [if_neg hS] at h; cases h
  intro x r h
  exact key _ _ h
end Go.VI
