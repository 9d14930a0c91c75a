import Derived.Test.YtngopicaeoapnaaGreatDoorKHBase
set_option linter.unusedVariables false
set_option linter.unusedSimpArgs false
namespace Go.Proofs
open Go.RowKit Go.Sort Go.Lib
def aM3 (w w' : World) : Prop := ∀ (k : Nat) c T fz, w.heap[k]? = some (.cells c T fz) → T ≠ 5 → T ≠ 50 → w'.heap[k]? = some (.cells c T fz)
theorem aM3.refl (w : World) : aM3 w w := fun _ _ _ _ h _ _ => h
theorem aM3.trans {w w' w'' : World} (h : aM3 w w') (h' : aM3 w' w'') : aM3 w w'' := fun k c T fz hk h5 hT => h' k c T fz (h k c T fz hk h5 hT) h5 hT
theorem aM3.below {w w' : World} (h : Below w.heap.size w w') : aM3 w w' := fun k c T fz hk _ _ => (h.block k (Array.getElem?_eq_some_iff.1 hk).1).trans hk
theorem World.heap_setCell_other {w : World} {b o : Nat} {k : Nat} (v : Value) (u : Unit) (h : b ≠ k) : (w.setCell ⟨b, o, none⟩ v).heap[k]? = w.heap[k]? := by
  simp [World.setCell, Array.getElem?_modify, h]
theorem Tryz.cc_o (B b : Nat) (bs : List Value) (w : World) (h : Lib.IsBuilderF 50 5 B b bs w) :
    Calls Tryz.prog 37 #[.pointer (some ⟨b, 0, none⟩)] w fun e w' => e = .returned (.tuple #[]) ∧ (Lib.BuilderAtF 50 5 B b (.pointer (some ⟨b, 0, none⟩)) bs w' ∧ Below B w w') ∧ aM3 w w' := by
  rcases h with h | h
  · refine (Tryz.cc_fresh b w h.cell0 h.shape h.frozen0).mono ?_
    rintro e w' ⟨rfl, rfl⟩
    refine ⟨rfl, ⟨h.used _, (Below.refl B w).setCell (p := ⟨b, 0, none⟩) h.1 _⟩, fun k c T fz hk h5 h44 => ?_⟩
    have hkb : b ≠ k := fun e => by
      obtain ⟨_, v, hbk, _⟩ := h
      rw [e, hk] at hbk; injection hbk with hbk; injection hbk with _ hbk _; exact h44 hbk
    rw [World.heap_setCell_other _ () hkb]
    exact hk
  · refine (Tryz.cc_used b w h.cell0).mono ?_
    rintro e w' ⟨rfl, rfl⟩
    exact ⟨rfl, ⟨h, Below.refl B _⟩, aM3.refl _⟩
set_option maxHeartbeats 2000000 in
set_option maxRecDepth 100000 in
theorem Tryz.writeString_w (B b : Nat) (bs : List Value) (s : ByteArray) (w : World) (h : Lib.IsBuilderF 50 5 B b bs w) (hlen : bs.length + s.size ≤ 140737488355328) (hBw : B ≤ w.heap.size) :
    Calls Tryz.prog 14 #[.pointer (some ⟨b, 0, none⟩), .string s] w fun e w' => e = .returned (.tuple #[.int .i64 s.size, .nilIface]) ∧ (Lib.BuilderAtF 50 5 B b (.pointer (some ⟨b, 0, none⟩)) (bs ++ Lib.strCells s) w' ∧ Below B w w') ∧ aM3 w w' := by
  obtain ⟨i0, hi, hz0, hz1, hz2⟩ := info_parts Tryz.Builder_Extra_169.infoByte
  go_enter Tryz.func14, Tryz.ntmps14
  go_wp2_with (go_at_call 37; refine (Tryz.cc_o B b bs _ h).mono ?_)
  rintro e w1 ⟨rfl, ⟨h1, hb1⟩, ho1⟩
  obtain ⟨hB, v, hbk, hown, hne⟩ := h1
  have c0 : w1.cell? ⟨b, 0, none⟩ = some (.pointer (some ⟨b, 0, none⟩)) := by rw [Lib.cell_of_heap hbk]; rfl
  have c1 : w1.cell? ⟨b, 1, none⟩ = some v := by rw [Lib.cell_of_heap hbk]; rfl
  go_wp2_with (at_builtin; refine Lib.wpList_append_own_stringF _ rfl _ _ 48 9 rfl B 5 i0 Tryz.underlying48 Tryz.underlying9 hi hz0 hz1 hz2 _ _ _ rfl hown s rfl ?c3 ?c4 ?c5 ?_)
  case c3 => unfold maxLen; omega
  case c4 => omega
  case c5 => have := hb1.size; omega
  intro v' w2 hown' hgrow _
  have hlt : b < w1.heap.size := by
    rcases Nat.lt_or_ge b w1.heap.size with h' | h'
    · exact h'
    · simp [Array.getElem?_eq_none h'] at hbk
  have hb2 : w2.heap[b]? = some (.cells #[.pointer (some ⟨b, 0, none⟩), v] 50 (0, 0)) := by
    rw [hgrow.block b hlt (fun e => hne e.symm)]
    exact hbk
  have d0 : w2.cell? ⟨b, 0, none⟩ = some (.pointer (some ⟨b, 0, none⟩)) := by rw [Lib.cell_of_heap hb2]; rfl
  have d1 : w2.cell? ⟨b, 1, none⟩ = some v := by rw [Lib.cell_of_heap hb2]; rfl
  have f1 : w2.frozen? ⟨b, 1, none⟩ = false := Lib.frozen_of_heap hb2 1
  obtain ⟨ao, n', cap, rfl⟩ : ∃ ao n' cap, v' = .slice ao n' cap := by
    rcases hown'.2 with ⟨hv, _⟩ | ⟨g, cap, cur, fz, hv, _⟩
    · exact ⟨_, _, _, hv⟩
    · exact ⟨_, _, _, hv⟩
  go_wp2
  go_ret2
  refine ⟨rfl, ⟨?_, ?_⟩, ho1.trans ?_⟩
  · exact Lib.BuilderAtF.put (T := 50) (e := 5) hB hb2 (bs' := bs ++ Lib.strCells s) (by simpa [Lib.strCells_length] using hown') Tryz.Builder_Extra_169.neB5
  · exact (hb1.grown hgrow (by have := hb1.size; omega) (fun k hk => (hown.lt k hk).1)).setCell (p := ⟨b, 1, none⟩) hB _
  · have hne2 : ∀ k c T fz, w1.heap[k]? = some (.cells c T fz) → T ≠ 5 → some k ≠ v.ownBlock := fun k c T fz hk hT e => by
      rcases hown.2 with ⟨h0, _⟩ | ⟨g, cap0, cur, fz0, hv0, _, hg0, _⟩
      · rw [h0] at e; cases e
      · rw [hv0] at e; injection e with e; have e : k = g := e; rw [← e, hk] at hg0; injection hg0 with hg0; injection hg0 with _ hg0 _; exact hT hg0
    refine fun k c T fz hk h5 h44 => ?_
    have hkb : b ≠ k := fun e => by rw [e, hk] at hbk; injection hbk with hbk; injection hbk with _ hbk _; exact h44 hbk
    have hkl : k < w1.heap.size := (Array.getElem?_eq_some_iff.1 hk).1
    have h3 := hgrow.block k hkl (hne2 k c T fz hk h5)
    rw [World.heap_setCell_other _ () hkb, h3]
    exact hk
end Go.Proofs
