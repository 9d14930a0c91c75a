import Derived.Test.YtngopicaeoapnaaGreatDoorKHPrintF
set_option linter.unusedVariables false
set_option linter.unusedSimpArgs false
set_option maxRecDepth 100000
namespace Go.Proofs
open Go.RowKit Go.Sort Go.Lib
open Go.VI
theorem dC3 (k : Int) : (an3 k).length ≤ 10 := by
  unfold an3
  split
  · rename_i h
    have : k = 1 ∨ k = 2 ∨ k = 3 ∨ k = 4 ∨ k = 5 ∨ k = 6 ∨ k = 7 ∨ k = 8 ∨ k = 9 ∨ k = 10 ∨ k = 11 ∨ k = 12 ∨ k = 13 ∨ k = 14 := by omega
    rcases this with rfl | rfl | rfl | rfl | rfl | rfl | rfl | rfl | rfl | rfl | rfl | rfl | rfl | rfl <;> decide
  · simp
theorem Tryz.writeB (bb : Nat) (l s : List UInt8) (w : World) (h : Lib.IsBuilderF 50 5 bb bb (Lib.byteCells l) w) (hlen : l.length + s.length ≤ 140737488355328) (hBw : bb ≤ w.heap.size) :
    Calls Tryz.prog 14 #[.pointer (some ⟨bb, 0, none⟩), .string ⟨⟨s⟩⟩] w fun e w' => e = .returned (.tuple #[.int .i64 s.length, .nilIface]) ∧ Lib.IsBuilderF 50 5 bb bb (Lib.byteCells (l ++ s)) w' ∧ Below bb w w' ∧ aM3 w w' := by
  refine (Tryz.writeString_w bb bb (Lib.byteCells l) ⟨⟨s⟩⟩ w h (by rw [Lib.byteCells_length]; exact hlen) hBw).mono fun e w' ⟨h1, ⟨h2, h3⟩, h4⟩ => ⟨h1, ?_, h3, h4⟩
  rw [Lib.strCells_eq] at h2
  rw [Lib.byteCells_append]
  exact Or.inr h2
set_option maxHeartbeats 4000000 in
theorem Tryz.Print_yes (m : aa2) (us : Array Value) (hu : us.size = 25) (vl vs : Value) (I : Nat → Nat → Prop) (w : World) (hus : us = ae2 m vl vs) (hv : ∀ (j : Nat) c, (ab2.enc false m : List (CV U.τ))[j]? = some c → ∃ x, us[j]? = some x ∧ PC Tryz.prog U w I c x)
    (hi : ∀ b o, I b o → (w.cell? ⟨b, o, none⟩).isSome = true) (hl : av0 w vl (m.list.map bo5)) (hs : av0 w vs (m.subs.map bo6)) (hI : el3 m) (hS : bz8 m) (henv : envW w) (hw : 4 ≤ w.heap.size) (hB : Go.VP.bareB m = true) :
    Calls Tryz.prog 7 #[.agg us] w fun e w' => ((ad7 m ∧ e = .returned (.tuple #[.string ⟨⟨an3 m.kind ++ ad5 m fsM⟩⟩, .bool true])) ∨ (¬ ad7 m ∧ e = .returned (.tuple #[.string ⟨#[]⟩, .bool false]))) ∧ Below w.heap.size w w' := by
  have hr := Lib.hid (dC2 us (w.alloc (.cells us 33)) w.heap.size _ (heap_alloc_new w _))
  have hbl : Below w.heap.size w (w.alloc (.cells us 33)) := (Below.refl _ w).alloc (Nat.le_refl _) _
  obtain ⟨hv1, hi1⟩ := eu7 hv hi hbl
  have HB := Lib.hid (Tryz.bare_w m us I _ hu hv1 hi1 (af9 henv hw hbl) (Nat.le_trans hw hbl.size))
  clear hv1 hi1 hv hi
  rw [hB] at HB
  have hsz := dT9 us hu
  have hud := Tryz.underlying33
  have hM0 : cc4 (w.alloc (.cells us 33)) w.heap.size m vl vs := ⟨by rw [hus]; exact heap_alloc_new w _, hl.below hbl, hs.below hbl⟩
  have HM := Lib.hid hM0
  have HUS := Lib.hid hus
  clear hus hl hs hM0
  have hkr := hI.kind
  go_enter Tryz.func7, Tryz.ntmps7
  iterate 18 (first | go_values | go_skip | go_guarded | go_step | go_upon | go_in | go_back)
  refine wpList_load_mid rfl 33 (.tmp 1) rfl w.heap.size 0 rfl us.toList _ hr.out hud rfl hsz ?_
  rw [Array.toArray_toList]
  clear hud hsz hr
  go_wp2_with fail
  refine HB.out.mono ?_
  rintro e w1 ⟨rfl, hb1⟩
  have hlt1 : w.heap.size < w1.heap.size := by have := hb1.size; simp at this; omega
  have hM1 : cc4 w1 w.heap.size m vl vs := ⟨(hb1.block _ HM.out.lt).trans HM.out.box, HM.out.list.below hb1, HM.out.subs.below hb1⟩
  have hk1 : w1.cell? ⟨w.heap.size, 0, none⟩ = some (.int .i64 m.kind) := (hM1.cell 0).trans rfl
  have HM1 := Lib.hid hM1
  have henv1 : envW w1 := af9 (af9 henv hw hbl) (Nat.le_trans hw hbl.size) hb1
  have hbw1 := Lib.hid (hbl.trans (hb1.mono hbl.size))
  have hw1 : 4 ≤ w1.heap.size := by omega
  clear hb1 hM1 HM HB hbl
  obtain ⟨bb, hbb⟩ : ∃ bb, bb = w1.heap.size := ⟨_, rfl⟩
  have hfresh := Lib.IsBuilderF.of (Lib.fresh_isBuilder 50 5 w1)
  have hbB : Below bb w1 (w1.alloc (.cells #[.pointer none, .slice none 0 0] 50)) := by rw [hbb]; exact (Below.refl _ w1).alloc (Nat.le_refl _) _
  rw [← hbb] at hfresh
  have hFr := Lib.hid hfresh
  clear hfresh
  go_wp2_with fail
  rw [← hbb]
  refine (Tryz.word_w m.kind _ hkr (af9 henv1 (by omega) hbB) (by have := hbB.size; omega)).mono ?_
  rintro e w3 ⟨rfl, hb3⟩
  have HB3 := Lib.hid (bb8 hFr.out hb3)
  have HL3 := Lib.hid (hbB.trans (hb3.mono (by have := hbB.size; omega)))
  clear hb3 hFr hbB
  have hwl : (an3 m.kind).length ≤ 10 := dC3 m.kind
  go_wp2_with fail
  rw [← hbb]
  refine (Tryz.writeB bb [] (an3 m.kind) w3 HB3.out (by simp; omega) (by have := HL3.out.size; omega)).mono ?_
  rintro e w4 ⟨rfl, hb4, hl4, _⟩
  have HB4 := Lib.hid hb4
  have HL4 := Lib.hid (HL3.out.trans hl4)
  clear hb4 hl4 HB3 HL3
  go_wp2_with fail
  refine (Tryz.fields_w w.heap.size w4).mono ?_
  rintro e w5 ⟨rfl, hw5⟩
  have hz4 : bb ≤ w4.heap.size := by have := HL4.out.size; omega
  have hb5 : Below w4.heap.size w4 w5 := by rw [hw5]; exact ((Below.refl _ _).alloc (Nat.le_refl _) _).trans (ag4 _ _)
  have HF5 : Hid (w5.heap[w4.heap.size]? = some (.cells (ch8 w.heap.size) 64 (0, 0))) := by rw [hw5]; exact heap_alloc_new w4 _
  have HB5 := Lib.hid (bb8 HB4.out hb5)
  have HL5 := Lib.hid (HL4.out.trans (hb5.mono hz4))
  obtain ⟨gF, hgF⟩ : ∃ gF, gF = w4.heap.size := ⟨_, rfl⟩
  rw [← hgF] at HF5 ⊢
  clear hw5 hb5 HB4 HL4 hgF hz4
  go_wp2_with fail
  go_loopw [18] (fun i wr => ∃ k : Nat, k ≤ 24 ∧ i = .int .i64 k ∧ Hid (Lib.IsBuilderF 50 5 bb bb (Lib.byteCells (an3 m.kind ++ ad5 m (fsM.take k))) wr) ∧ (∀ j, j < k → okF m j) ∧ Hid (Below bb w1 wr) ∧ Hid (wr.heap[gF]? = some (.cells (ch8 w.heap.size) 64 (0, 0)))) (fun i _ => 24 - (RowKit.intOf i).toNat)
  case atStart => exact ⟨0, by decide, rfl, by simpa [ad5] using HB5, fun j hj => by omega, HL5, HF5⟩
  case round =>
    obtain ⟨k, hk, rfl, HB, HN, HL, HF⟩ := hrel
    rename World => W0
    clear HB5 HL5 HF5
    have hz0 : bb ≤ W0.heap.size := by have := HL.out.size; omega
    have henv0 := Lib.hid (af9 henv1 (by omega) HL.out)
    by_cases hlt : k < 24
    · obtain ⟨wd, p1, p2, p3, p4, f, hFI, hf, hfw, hwl2, hpr⟩ := dT8 k hlt w.heap.size
      have c0 : W0.cell? ⟨gF, k * 5, none⟩ = some (.string ⟨⟨wd⟩⟩) := (Lib.cell_of_heap HF.out _).trans hFI.c0
      have c1 : W0.cell? ⟨gF, k * 5 + 1, none⟩ = some (.pointer p1) := (Lib.cell_of_heap HF.out _).trans hFI.c1
      have c2 : W0.cell? ⟨gF, k * 5 + 2, none⟩ = some (.pointer p2) := (Lib.cell_of_heap HF.out _).trans hFI.c2
      have c3 : W0.cell? ⟨gF, k * 5 + 3, none⟩ = some (.pointer p3) := (Lib.cell_of_heap HF.out _).trans hFI.c3
      have c4 : W0.cell? ⟨gF, k * 5 + 4, none⟩ = some (.pointer p4) := (Lib.cell_of_heap HF.out _).trans hFI.c4
      have HPR := Lib.hid hpr
      have Hf := Lib.hid hf
      have Hfw := Lib.hid hfw
      clear hpr hf hfw hFI
      have hba : Below W0.heap.size W0 (W0.alloc (.cells #[.string ⟨⟨wd⟩⟩, .pointer p1, .pointer p2, .pointer p3, .pointer p4] 64)) := (Below.refl _ _).alloc (Nat.le_refl _) _
      have hLa := HL.out.trans (hba.mono hz0)
      have hMa : cc4 (W0.alloc (.cells #[.string ⟨⟨wd⟩⟩, .pointer p1, .pointer p2, .pointer p3, .pointer p4] 64)) w.heap.size m vl vs := by
        rw [hbb] at hLa
        exact ⟨(hLa.block _ HM1.out.lt).trans HM1.out.box, HM1.out.list.below hLa, HM1.out.subs.below hLa⟩
      have hcp := HPR.out _ m vl vs hMa hI hS (af9 henv0.out (by omega) hba) (by have := hba.size; omega)
      have HCP := Lib.hid hcp
      have HBa := Lib.hid (bb8 HB.out hba)
      have HFa := Lib.hid ((hba.block gF (Array.getElem?_eq_some_iff.1 HF.out).1).trans HF.out)
      have hfz : W0.heap.size < (W0.alloc (.cells #[.string ⟨⟨wd⟩⟩, .pointer p1, .pointer p2, .pointer p3, .pointer p4] 64)).heap.size := by simp
      have hfc : (W0.alloc (.cells #[.string ⟨⟨wd⟩⟩, .pointer p1, .pointer p2, .pointer p3, .pointer p4] 64)).cell? ⟨W0.heap.size, 0, none⟩ = some (.string ⟨⟨wd⟩⟩) := by simp
      have HFC := Lib.hid hfc
      have HLA := Lib.hid hLa
      clear hcp hMa hLa hfc
      by_cases hok : okF m k
      · have hcall := HCP.out.mono (R' := fun e w' => e = .returned (.tuple #[.string ⟨⟨f.get m⟩⟩, .bool true]) ∧ Below (W0.alloc (.cells #[.string ⟨⟨wd⟩⟩, .pointer p1, .pointer p2, .pointer p3, .pointer p4] 64)).heap.size (W0.alloc (.cells #[.string ⟨⟨wd⟩⟩, .pointer p1, .pointer p2, .pointer p3, .pointer p4] 64)) w') (fun e w' ⟨h, hb⟩ => by
          rcases h with ⟨_, h⟩ | ⟨h, _⟩
          · exact ⟨h, hb⟩
          · exact absurd hok h)
        have HC := Lib.hid hcall
        clear hcall HCP HPR
        go_wp2_with fail
        refine HC.out.mono ?_
        rintro e w6 ⟨rfl, hb6⟩
        have HB6 := Lib.hid (bb8 HBa.out hb6)
        have HF6 := Lib.hid ((hb6.block gF (Array.getElem?_eq_some_iff.1 HFa.out).1).trans HFa.out)
        have HL6 := Lib.hid (HLA.out.trans (hb6.mono (by omega)))
        have hc6 : w6.cell? ⟨W0.heap.size, 0, none⟩ = some (.string ⟨⟨wd⟩⟩) := (hb6.cell (p := ⟨W0.heap.size, 0, none⟩) hfz).trans HFC.out
        clear hb6
        have hts : fsM.take (k + 1) = fsM.take k ++ [f] := by
          have := (List.getElem?_eq_some_iff.1 Hf.out)
          rw [List.take_succ_eq_append_getElem this.1, this.2]
        have hmem : f ∈ fsM := List.mem_of_getElem? Hf.out
        have hN' : ∀ j, j < k + 1 → okF m j := fun j hj => by
          by_cases e : j = k
          · subst e; exact hok
          · exact HN j (by omega)
        have HTS := Lib.hid hts
        clear hts
        by_cases hs0 : f.get m = []
        · have HS0 := Lib.hid hs0
          rw [hs0]
          clear hs0
          go_wp2_with fail
          go_roundw
          case rel => exact ⟨k + 1, by omega, by go_num, by rw [HTS.out, cv0, if_pos HS0.out, List.append_nil]; exact HB6, hN', HL6, HF6⟩
          case measure => simp [RowKit.intOf]; omega
        · have hne : (f.get m).isEmpty = false := by simpa using hs0
          have hgl := dw6 hS f hmem
          have hll := de8 (m := m) (fsM.take k) (fun g hg => ⟨dw6 hS g (List.mem_of_mem_take hg), eJ9 g (List.mem_of_mem_take hg)⟩)
          have htl : (fsM.take k).length ≤ 24 := by rw [List.length_take]; omega
          have HS0 := Lib.hid hs0
          clear hs0
          go_wp2_with fail
          rw [← hbb, show ((⟨#[32]⟩ : ByteArray) ++ ⟨⟨wd⟩⟩ ++ ⟨#[61]⟩ ++ ⟨⟨f.get m⟩⟩) = ⟨⟨32 :: (wd ++ 61 :: f.get m)⟩⟩ from by
            show (⟨⟨([32] ++ wd ++ [61]) ++ f.get m⟩⟩ : ByteArray) = _
            simp]
          refine (Tryz.writeB bb _ (32 :: (wd ++ 61 :: f.get m)) w6 HB6.out (by simp only [List.length_append, List.length_cons]; omega) (by have := HL6.out.size; omega)).mono ?_
          rintro e w7 ⟨rfl, hb7, hl7, ho7⟩
          have HB7 := Lib.hid hb7
          have HL7 := Lib.hid (HL6.out.trans hl7)
          have HF7 := Lib.hid (ho7 gF _ _ _ HF6.out (by decide) (by decide))
          clear hb7 hl7 ho7
          go_wp2
          go_roundw
          case rel => exact ⟨k + 1, by omega, by go_num, by rw [HTS.out, cv0, if_neg HS0.out, Hfw.out, ← List.append_assoc]; exact HB7, hN', HL7, HF7⟩
          case measure => simp [RowKit.intOf]; omega
      · have hcall := HCP.out.mono (R' := fun e w' => (∃ t, e = .returned (.tuple #[.string t, .bool false])) ∧ Below (W0.alloc (.cells #[.string ⟨⟨wd⟩⟩, .pointer p1, .pointer p2, .pointer p3, .pointer p4] 64)).heap.size (W0.alloc (.cells #[.string ⟨⟨wd⟩⟩, .pointer p1, .pointer p2, .pointer p3, .pointer p4] 64)) w') (fun e w' ⟨h, hb⟩ => by
          rcases h with ⟨h, _⟩ | ⟨_, h⟩
          · exact absurd h hok
          · exact ⟨h, hb⟩)
        have HC := Lib.hid hcall
        clear hcall HCP HPR
        go_wp2_with fail
        refine HC.out.mono ?_
        rintro e w6 ⟨⟨t, rfl⟩, hb6⟩
        go_wp2
        go_ret2
        exact ⟨.inr ⟨fun h => hok (dT7.1 h k hlt), rfl⟩, hbw1.out.trans ((HLA.out.trans (hb6.mono (by omega))).mono (by omega))⟩
    · obtain rfl : k = 24 := by omega
      have hall : ad7 m := dT7.2 HN
      have htk : fsM.take 24 = fsM := rfl
      rw [htk] at HB
      go_wp2_with fail
      rw [← hbb]
      refine (Tryz.Builder_String_any_f bb bb (an3 m.kind ++ ad5 m fsM) _ HB.out hz0).mono ?_
      rintro e w6 ⟨rfl, _, hb6⟩
      go_wp2
      go_ret2
      exact ⟨.inl ⟨hall, rfl⟩, hbw1.out.trans ((HL.out.trans hb6).mono (by omega))⟩
end Go.Proofs
