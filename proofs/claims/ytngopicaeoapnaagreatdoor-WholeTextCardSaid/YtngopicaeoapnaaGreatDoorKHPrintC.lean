import Derived.Test.YtngopicaeoapnaaGreatDoorKHPrintB
set_option linter.unusedVariables false
set_option linter.unusedSimpArgs false
namespace Go.Proofs
open Go.RowKit Go.Sort Go.Lib
open Go.VI
abbrev dL4 (D : Nat) (x y : Value) (w0 W : World) : Prop := W.cell? ⟨D, 0, none⟩ = some x ∧ W.cell? ⟨D, 1, none⟩ = some y ∧ Below w0.heap.size w0 W ∧ D < W.heap.size
theorem bb9 {D : Nat} {x y : Value} {w0 W W' : World} (h : dL4 D x y w0 W) (hb : Below W.heap.size W W') : dL4 D x y w0 W' :=
  ⟨(hb.cell (p := ⟨D, 0, none⟩) h.2.2.2).trans h.1, (hb.cell (p := ⟨D, 1, none⟩) h.2.2.2).trans h.2.1, h.2.2.1.trans (hb.mono h.2.2.1.size), Nat.lt_of_lt_of_le h.2.2.2 hb.size⟩
theorem bM0 {D : Nat} {x y : Value} {w0 W W' : World} {row : Option Nat} (h : dL4 D x y w0 W) (hg : W.grownBy W' row) (hr : ∀ k, row = some k → w0.heap.size ≤ k ∧ k < D) : dL4 D x y w0 W' :=
  have hne : some D ≠ row := fun e => by have := hr D e.symm; omega
  ⟨(hg.cell_far ⟨D, 0, none⟩ h.2.2.2 hne).trans h.1, (hg.cell_far ⟨D, 1, none⟩ h.2.2.2 hne).trans h.2.1, h.2.2.1.grown hg h.2.2.1.size (fun k hk => (hr k hk).1), Nat.lt_of_lt_of_le h.2.2.2 hg.size⟩
theorem dT6 (w : World) (s : List UInt8) : ∀ (j : Nat) (u : Value), [st s][j]? = some u → (w.alloc (.cells #[.string ⟨⟨s⟩⟩] 9)).cell? ((⟨w.heap.size, 0, none⟩ : Addr).add j) = some u := fun j u hj => by
  match j, hj with
  | 0, hj => injection hj with hj; subst hj; rw [Lib.add_plain, World.cell?_alloc_new]; rfl
set_option maxHeartbeats 4000000 in
set_option maxRecDepth 100000 in
theorem Tryz.print_list_row (b o : Nat) (wd : ByteArray) (l : List ac1) (g off cap : Nat) (w : World) (hb : b < w.heap.size) (hc : w.cell? ⟨b, o, none⟩ = some (.slice (some ⟨g, off, none⟩) l.length cap)) (hcap : l.length ≤ cap)
    (hr : cT2 w g off (l.map bo5)) (hn0 : 0 < l.length) (hl : l.length ≤ 1000) (ha : ∀ d ∈ l, d.addr.length ≤ 100000 ∧ -9223372036854775808 ≤ d.seq ∧ d.seq ≤ 9223372036854775807) (henv : envW w) (hw : 4 ≤ w.heap.size) :
    Calls Tryz.prog 17 #[.agg #[.string wd, .pointer none, .pointer none, .pointer (some ⟨b, o, none⟩), .pointer none]] w fun e w' =>
      (((∀ d ∈ l, rng d.seq) ∧ e = .returned (.tuple #[.string ⟨⟨bi2 (l.map dTo)⟩⟩, .bool true])) ∨ ((¬ ∀ d ∈ l, rng d.seq) ∧ e = .returned (.tuple #[.string ⟨#[]⟩, .bool false]))) ∧ Below w.heap.size w w' := by
  have hbl : Below w.heap.size w (w.alloc (.cells #[.string wd, .pointer none, .pointer none, .pointer (some ⟨b, o, none⟩), .pointer none] 64)) := (Below.refl _ w).alloc (Nat.le_refl _) _
  have hinfo : (Tryz.prog.info? 9).map (fun i => (i.zero, i.size, i.bytes)) = some (some (.string ByteArray.empty), 1, 16) := by kernel_rfl
  obtain ⟨i0, hi, hz0, hz1, hz2⟩ := info_parts hinfo
  clear hinfo
  have HI := Lib.hid hi
  have HZ0 := Lib.hid hz0
  have HZ1 := Lib.hid hz1
  have HZ2 := Lib.hid hz2
  clear hi hz0 hz1 hz2
  have HR := Lib.hid hr
  clear hr
  go_enter Tryz.func17, Tryz.ntmps17
  go_wp2
  go_loopw [4, 71] (fun v i wr => ∃ k : Nat, k ≤ l.length ∧ i = .int .i64 k ∧ Hid (wr.ownsRow w.heap.size 9 1 v k (((l.take k).map dTo).map fun x => st (an1 x))) ∧ (∀ d ∈ l.take k, rng d.seq) ∧ Hid (Below w.heap.size w wr)) (fun _ i _ => l.length - (RowKit.intOf i).toNat)
  case atStart => exact ⟨0, Nat.zero_le _, rfl, World.ownsRow_nil _ _ _ _, by simp, hbl⟩
  case round =>
    obtain ⟨k, hk, rfl, HO, HN, HL⟩ := hrel
    rename World => W0
    have hsz0 : w.heap.size ≤ W0.heap.size := HL.out.size
    by_cases hlt : k < l.length
    · obtain ⟨d, hd⟩ : ∃ d, d = l[k] := ⟨_, rfl⟩
      have hlk : l[k]? = some d := by rw [hd]; exact List.getElem?_eq_getElem hlt
      have hrw := HR.out.below HL.out
      have c0 : W0.cell? ⟨g, off + k * 2, none⟩ = some (.string ⟨⟨d.addr⟩⟩) := hrw.at0 k (bo5 d) (by rw [List.getElem?_map, hlk]; rfl)
      have c1 : W0.cell? ⟨g, off + k * 2 + 1, none⟩ = some (.int .i64 d.seq) := hrw.at1 k (bo5 d) (by rw [List.getElem?_map, hlk]; rfl)
      have HD := Lib.hid hd
      have HLK := Lib.hid hlk
      clear hd hlk hrw
      obtain ⟨ha0, ha1, ha2⟩ := ha d (by rw [HD.out]; exact List.getElem_mem hlt)
      cases hf : bn4 d.seq with
      | true =>
        go_wp2_with (go_at_call 40; refine (Tryz.far_w d.seq _).mono ?_; rintro e w' ⟨rfl, rfl⟩; rw [hf])
        go_ret2
        refine ⟨.inr ⟨fun h => ?_, rfl⟩, HL.out.alloc hsz0 _⟩
        have := aT2.2 (h d (by rw [HD.out]; exact List.getElem_mem hlt))
        rw [hf] at this; cases this
      | false =>
        go_wp2_with (go_at_call 40; refine (Tryz.far_w d.seq _).mono ?_; rintro e w' ⟨rfl, rfl⟩; rw [hf])
        have hrd := aT2.1 hf
        have hlen : (ag9 d.addr).length ≤ 200000 := by rw [Go.VP.hexs_len]; omega
        have hdl := Go.VP.decT_len d.seq.toNat
        have hs1 : ∀ W, (Op.stringOp .add (⟨⟨ag9 d.addr⟩⟩ : ByteArray) ⟨#[58]⟩).run Tryz.prog W = .ok (.string ⟨⟨ag9 d.addr ++ [58]⟩⟩) W := fun W => run_string_add_sum W _ _ (by show (ag9 d.addr).length + 1 ≤ _; omega)
        have hs2 : ∀ W, (Op.stringOp .add (⟨⟨ag9 d.addr ++ [58]⟩⟩ : ByteArray) ⟨(Lib.itoa d.seq).toArray⟩).run Tryz.prog W = .ok (.string ⟨⟨an1 (dTo d)⟩⟩) W := fun W => by
          rw [Go.VI.itoa_dec hrd]
          refine (run_string_add_sum W _ _ (by show (ag9 d.addr ++ [58]).length + (as2 d.seq.toNat).length ≤ _; simp; omega)).trans ?_
          rw [show an1 (dTo d) = (ag9 d.addr ++ [58]) ++ as2 d.seq.toNat by simp [an1, dTo]]
          rfl
        have hdn := Lib.hid hrd
        clear hrd
        have hd0 : ((W0.alloc (.cells #[.string ⟨⟨d.addr⟩⟩, .int .i64 d.seq] 73)).drew).cell? ⟨W0.heap.size, 0, none⟩ = some (.string ⟨⟨d.addr⟩⟩) := by simp
        have hd1 : ((W0.alloc (.cells #[.string ⟨⟨d.addr⟩⟩, .int .i64 d.seq] 73)).drew).cell? ⟨W0.heap.size, 1, none⟩ = some (.int .i64 d.seq) := by simp
        have hdb : Below W0.heap.size W0 ((W0.alloc (.cells #[.string ⟨⟨d.addr⟩⟩, .int .i64 d.seq] 73)).drew) := ((Below.refl _ _).alloc (Nat.le_refl _) _).trans (ag4 _ _)
        have hdz : W0.heap.size < ((W0.alloc (.cells #[.string ⟨⟨d.addr⟩⟩, .int .i64 d.seq] 73)).drew).heap.size := by simp
        have hOd := Lib.hid (ai6 HO.out hdb)
        have hLd := HL.out.trans (hdb.mono hsz0)
        have hgb : ∀ q, u4.ownBlock = some q → w.heap.size ≤ q ∧ q < W0.heap.size := fun q hq => HO.out.lt q hq
        go_region_held3 (fun W => W.cell? ⟨W0.heap.size, 0, none⟩ = some (.string ⟨⟨d.addr⟩⟩) ∧ W.cell? ⟨W0.heap.size, 1, none⟩ = some (.int .i64 d.seq) ∧ Below w.heap.size w W ∧ W0.heap.size < W.heap.size)
          (first | exact ⟨hd0, hd1, hLd, hdz⟩ | assumption | exact bM0 (by assumption) hgrow hgb | exact bb9 (by assumption) hbB | exact bb9 (by assumption) hbA | exact bb9 (by assumption) ((Below.refl _ _).alloc (Nat.le_refl _) _))
          (first
            | (go_at_call 41; refine (Tryz.digits_w d.addr _ (by omega) (af9 henv hw hLd) (Nat.le_trans hw hLd.size)).mono ?_; rintro e w1 ⟨rfl, hbA⟩)
            | (go_at_call 39; refine (Tryz.itoa_w d.seq ha1 ha2 _ (af9 henv hw (hLd.trans (hbA.mono hLd.size)))).mono ?_; rintro e w2 ⟨rfl, hbB⟩)
            | (refine step_append_lies _ (by rfl) (.tmp 78) (.tmp 87) 82 (by rfl) w.heap.size 9 i0 (.string ByteArray.empty) 1 16 Tryz.underlying82 HI.out HZ0.out HZ1.out HZ2.out rfl (by decide) u4 k _ (by rfl) ((ai6 (ai6 hOd.out hbA) hbB).alloc _) ⟨w2.heap.size, 0, none⟩ 1 1 [st (an1 (dTo d))] (by rfl) rfl (dT6 _ _) (fun u hu => by rw [List.mem_singleton.1 hu]; rfl) (by decide) (by unfold maxLen; omega) (by omega) (by simp; have := hLd.size; have := hbA.size; have := hbB.size; omega) _ rfl ?_; intro g' cap' w' hown hgrow hat hlt'))
        go_wp2
        go_roundw
        case rel =>
          have hts : l.take (k + 1) = l.take k ++ [d] := by rw [List.take_succ_eq_append_getElem hlt, HD.out]
          refine ⟨k + 1, by omega, by go_num, Lib.hid ?_, ?_, Lib.hid ?_⟩
          · rw [hts, List.map_append, List.map_append]; exact hown
          · rw [hts]
            intro x hx
            rcases List.mem_append.1 hx with hx | hx
            · exact HN x hx
            · rw [List.mem_singleton.1 hx]; exact hdn.out
          · exact (bM0 (D := W0.heap.size) (x := .string ⟨⟨d.addr⟩⟩) (y := .int .i64 d.seq) (bb9 (bb9 (bb9 (W := (W0.alloc (.cells #[.string ⟨⟨d.addr⟩⟩, .int .i64 d.seq] 73)).drew) ⟨hd0, hd1, hLd, hdz⟩ hbA) hbB) ((Below.refl _ _).alloc (Nat.le_refl _) _)) hgrow hgb).2.2.1
        case measure => simp [RowKit.intOf]; omega
    · obtain rfl : k = l.length := by omega
      have htk : l.take l.length = l := List.take_of_length_le (Nat.le_refl _)
      have hO := HO.out
      rw [htk] at hO HN
      have hrg : ∀ d ∈ l, rng d.seq := HN
      obtain ⟨g', cap', rfl, hg1, hg2⟩ := hO.form hn0
      have hjl : (ai7 44 ((l.map dTo).map an1)).length ≤ 1000000000 := by
        have := Go.VP.joinC_le 44 200100 ((l.map dTo).map an1) (fun p hp => by
          obtain ⟨x, hx, rfl⟩ := List.mem_map.1 hp
          obtain ⟨d, hd, rfl⟩ := List.mem_map.1 hx
          exact Go.VP.destT_len (ha d hd).1)
        rw [List.length_map, List.length_map] at this
        have h2 : 200101 * l.length ≤ 200101 * 1000 := Nat.mul_le_mul_left _ hl
        omega
      have hJ := Tryz.join_w g' cap' l.length ((l.map dTo).map an1) w.heap.size W0 (by rw [List.map_map]; exact hO) (by simp) hn0 hjl (by omega)
      have HJ := Lib.hid hJ
      clear hJ hjl hO HO htk
      go_wp2_with (go_at_call 42; refine HJ.out.mono ?_; rintro e w' ⟨rfl, hb'⟩)
      go_ret2
      exact ⟨.inl ⟨hrg, by unfold bi2; rw [List.map_map]; rfl⟩, HL.out.trans (hb'.mono hsz0)⟩
end Go.Proofs
