import Derived.Test.YtngopicaeoapnaaGreatDoorKHPrintC
set_option linter.unusedVariables false
set_option linter.unusedSimpArgs false
namespace Go.Proofs
open Go.RowKit Go.Sort Go.Lib
open Go.VI
set_option maxHeartbeats 4000000 in
set_option maxRecDepth 100000 in
theorem Tryz.print_subs_nil (b o : Nat) (wd : ByteArray) (v : Value) (w : World) (hb : b < w.heap.size) (hc : w.cell? ⟨b, o, none⟩ = some v) (hv : v = .slice none 0 0 ∨ ∃ p cap, v = .slice (some p) 0 cap) :
    Calls Tryz.prog 17 #[.agg #[.string wd, .pointer none, .pointer none, .pointer none, .pointer (some ⟨b, o, none⟩)]] w fun e w' => e = .returned (.tuple #[.string ⟨#[]⟩, .bool true]) ∧ Below w.heap.size w w' := by
  have hbl : Below w.heap.size w (w.alloc (.cells #[.string wd, .pointer none, .pointer none, .pointer none, .pointer (some ⟨b, o, none⟩)] 64)) := (Below.refl _ w).alloc (Nat.le_refl _) _
  obtain ⟨p, cap, rfl⟩ : ∃ p cap, v = .slice p 0 cap := by
    rcases hv with h | ⟨p, cap, h⟩
    · exact ⟨_, _, h⟩
    · exact ⟨_, _, h⟩
  go_enter Tryz.func17, Tryz.ntmps17
  go_wp2
  go_loopw [4, 14] (fun v i wr => v = .slice none 0 0 ∧ i = .int .i64 0 ∧ Hid (Below w.heap.size w wr)) (fun _ i _ => 0)
  case atStart => exact ⟨rfl, rfl, hbl⟩
  case round =>
    obtain ⟨rfl, rfl, HL⟩ := hrel
    rename World => W0
    go_wp2_with (go_at_call 42; refine (Tryz.join0_w _ _ _).mono ?_; rintro e w' ⟨rfl, hb'⟩)
    go_ret2
    exact ⟨rfl, HL.out.trans (hb'.mono HL.out.size)⟩
set_option maxHeartbeats 4000000 in
set_option maxRecDepth 100000 in
theorem Tryz.print_subs_row (b o : Nat) (wd : ByteArray) (l : List aa8) (g off cap : Nat) (w : World) (hb : b < w.heap.size) (hc : w.cell? ⟨b, o, none⟩ = some (.slice (some ⟨g, off, none⟩) l.length cap)) (hcap : l.length ≤ cap)
    (hr : cT2 w g off (l.map bo6)) (hn0 : 0 < l.length) (hl : l.length ≤ 1000) (ha : ∀ d ∈ l, d.data.length ≤ 100000 ∧ -9223372036854775808 ≤ d.type_ ∧ d.type_ ≤ 9223372036854775807) (henv : envW w) (hw : 4 ≤ w.heap.size) :
    Calls Tryz.prog 17 #[.agg #[.string wd, .pointer none, .pointer none, .pointer none, .pointer (some ⟨b, o, none⟩)]] w fun e w' =>
      (((∀ d ∈ l, rng d.type_) ∧ e = .returned (.tuple #[.string ⟨⟨bi3 (l.map sTo)⟩⟩, .bool true])) ∨ ((¬ ∀ d ∈ l, rng d.type_) ∧ e = .returned (.tuple #[.string ⟨#[]⟩, .bool false]))) ∧ Below w.heap.size w w' := by
  have hbl : Below w.heap.size w (w.alloc (.cells #[.string wd, .pointer none, .pointer none, .pointer none, .pointer (some ⟨b, o, none⟩)] 64)) := (Below.refl _ w).alloc (Nat.le_refl _) _
  have hinfo : (Tryz.prog.info? 9).map (fun i => (i.zero, i.size, i.bytes)) = some (some (.string ByteArray.empty), 1, 16) := by kernel_rfl
  obtain ⟨i0, hi, hz0, hz1, hz2⟩ := info_parts hinfo
  clear hinfo
  have HI := Lib.hid hi
  have HZ0 := Lib.hid hz0
  have HZ1 := Lib.hid hz1
  have HZ2 := Lib.hid hz2
  clear hi hz0 hz1 hz2
  have HR := Lib.hid hr
  clear hr
  go_enter Tryz.func17, Tryz.ntmps17
  go_wp2
  go_loopw [4, 14] (fun v i wr => ∃ k : Nat, k ≤ l.length ∧ i = .int .i64 k ∧ Hid (wr.ownsRow w.heap.size 9 1 v k (((l.take k).map sTo).map fun x => st (au0 x))) ∧ (∀ d ∈ l.take k, rng d.type_) ∧ Hid (Below w.heap.size w wr)) (fun _ i _ => l.length - (RowKit.intOf i).toNat)
  case atStart => exact ⟨0, Nat.zero_le _, rfl, World.ownsRow_nil _ _ _ _, by simp, hbl⟩
  case round =>
    obtain ⟨k, hk, rfl, HO, HN, HL⟩ := hrel
    rename World => W0
    have hsz0 : w.heap.size ≤ W0.heap.size := HL.out.size
    by_cases hlt : k < l.length
    · obtain ⟨d, hd⟩ : ∃ d, d = l[k] := ⟨_, rfl⟩
      have hlk : l[k]? = some d := by rw [hd]; exact List.getElem?_eq_getElem hlt
      have hrw := HR.out.below HL.out
      have c0 : W0.cell? ⟨g, off + k * 2, none⟩ = some (.int .i64 d.type_) := hrw.at0 k (bo6 d) (by rw [List.getElem?_map, hlk]; rfl)
      have c1 : W0.cell? ⟨g, off + k * 2 + 1, none⟩ = some (.string ⟨⟨d.data⟩⟩) := hrw.at1 k (bo6 d) (by rw [List.getElem?_map, hlk]; rfl)
      have HD := Lib.hid hd
      have HLK := Lib.hid hlk
      clear hd hlk hrw
      obtain ⟨ha0, ha1, ha2⟩ := ha d (by rw [HD.out]; exact List.getElem_mem hlt)
      cases hf : bn4 d.type_ with
      | true =>
        go_wp2_with (go_at_call 40; refine (Tryz.far_w d.type_ _).mono ?_; rintro e w' ⟨rfl, rfl⟩; rw [hf])
        go_ret2
        refine ⟨.inr ⟨fun h => ?_, rfl⟩, HL.out.alloc hsz0 _⟩
        have := aT2.2 (h d (by rw [HD.out]; exact List.getElem_mem hlt))
        rw [hf] at this; cases this
      | false =>
        go_wp2_with (go_at_call 40; refine (Tryz.far_w d.type_ _).mono ?_; rintro e w' ⟨rfl, rfl⟩; rw [hf])
        have hrd := aT2.1 hf
        have hlen : (ag9 d.data).length ≤ 200000 := by rw [Go.VP.hexs_len]; omega
        have hdl := Go.VP.decT_len d.type_.toNat
        have hs1 : ∀ W, (Op.stringOp .add (⟨(Lib.itoa d.type_).toArray⟩ : ByteArray) ⟨#[58]⟩).run Tryz.prog W = .ok (.string ⟨⟨as2 d.type_.toNat ++ [58]⟩⟩) W := fun W => by
          rw [Go.VI.itoa_dec hrd]
          exact run_string_add_sum W _ _ (by show (as2 d.type_.toNat).length + 1 ≤ _; omega)
        have hs2 : ∀ W, (Op.stringOp .add (⟨⟨as2 d.type_.toNat ++ [58]⟩⟩ : ByteArray) ⟨⟨ag9 d.data⟩⟩).run Tryz.prog W = .ok (.string ⟨⟨au0 (sTo d)⟩⟩) W := fun W => by
          refine (run_string_add_sum W _ _ (by show (as2 d.type_.toNat ++ [58]).length + (ag9 d.data).length ≤ _; simp; omega)).trans ?_
          rw [show au0 (sTo d) = (as2 d.type_.toNat ++ [58]) ++ ag9 d.data by simp [au0, sTo]]
          rfl
        have hdn := Lib.hid hrd
        clear hrd
        have hd0 : ((W0.alloc (.cells #[.int .i64 d.type_, .string ⟨⟨d.data⟩⟩] 75)).drew).cell? ⟨W0.heap.size, 0, none⟩ = some (.int .i64 d.type_) := by simp
        have hd1 : ((W0.alloc (.cells #[.int .i64 d.type_, .string ⟨⟨d.data⟩⟩] 75)).drew).cell? ⟨W0.heap.size, 1, none⟩ = some (.string ⟨⟨d.data⟩⟩) := by simp
        have hdb : Below W0.heap.size W0 ((W0.alloc (.cells #[.int .i64 d.type_, .string ⟨⟨d.data⟩⟩] 75)).drew) := ((Below.refl _ _).alloc (Nat.le_refl _) _).trans (ag4 _ _)
        have hdz : W0.heap.size < ((W0.alloc (.cells #[.int .i64 d.type_, .string ⟨⟨d.data⟩⟩] 75)).drew).heap.size := by simp
        have hOd := Lib.hid (ai6 HO.out hdb)
        have hLd := HL.out.trans (hdb.mono hsz0)
        have hgb : ∀ q, u4.ownBlock = some q → w.heap.size ≤ q ∧ q < W0.heap.size := fun q hq => HO.out.lt q hq
        go_region_held3 (fun W => W.cell? ⟨W0.heap.size, 0, none⟩ = some (.int .i64 d.type_) ∧ W.cell? ⟨W0.heap.size, 1, none⟩ = some (.string ⟨⟨d.data⟩⟩) ∧ Below w.heap.size w W ∧ W0.heap.size < W.heap.size)
          (first | exact ⟨hd0, hd1, hLd, hdz⟩ | assumption | exact bM0 (by assumption) hgrow hgb | exact bb9 (by assumption) hbB | exact bb9 (by assumption) hbA | exact bb9 (by assumption) ((Below.refl _ _).alloc (Nat.le_refl _) _))
          (first
            | (go_at_call 41; refine (Tryz.digits_w d.data _ (by omega) (af9 henv hw (hLd.trans (hbA.mono hLd.size))) (Nat.le_trans hw (Nat.le_trans hLd.size hbA.size))).mono ?_; rintro e w2 ⟨rfl, hbB⟩)
            | (go_at_call 39; refine (Tryz.itoa_w d.type_ ha1 ha2 _ (af9 henv hw hLd)).mono ?_; rintro e w1 ⟨rfl, hbA⟩)
            | (refine step_append_lies _ (by rfl) (.tmp 21) (.tmp 30) 82 (by rfl) w.heap.size 9 i0 (.string ByteArray.empty) 1 16 Tryz.underlying82 HI.out HZ0.out HZ1.out HZ2.out rfl (by decide) u4 k _ (by rfl) ((ai6 (ai6 hOd.out hbA) hbB).alloc _) ⟨w2.heap.size, 0, none⟩ 1 1 [st (au0 (sTo d))] (by rfl) rfl (dT6 _ _) (fun u hu => by rw [List.mem_singleton.1 hu]; rfl) (by decide) (by unfold maxLen; omega) (by omega) (by simp; have := hLd.size; have := hbA.size; have := hbB.size; omega) _ rfl ?_; intro g' cap' w' hown hgrow hat hlt'))
        go_wp2
        go_roundw
        case rel =>
          have hts : l.take (k + 1) = l.take k ++ [d] := by rw [List.take_succ_eq_append_getElem hlt, HD.out]
          refine ⟨k + 1, by omega, by go_num, Lib.hid ?_, ?_, Lib.hid ?_⟩
          · rw [hts, List.map_append, List.map_append]; exact hown
          · rw [hts]
            intro x hx
            rcases List.mem_append.1 hx with hx | hx
            · exact HN x hx
            · rw [List.mem_singleton.1 hx]; exact hdn.out
          · exact (bM0 (D := W0.heap.size) (x := .int .i64 d.type_) (y := .string ⟨⟨d.data⟩⟩) (bb9 (bb9 (bb9 (W := (W0.alloc (.cells #[.int .i64 d.type_, .string ⟨⟨d.data⟩⟩] 75)).drew) ⟨hd0, hd1, hLd, hdz⟩ hbA) hbB) ((Below.refl _ _).alloc (Nat.le_refl _) _)) hgrow hgb).2.2.1
        case measure => simp [RowKit.intOf]; omega
    · obtain rfl : k = l.length := by omega
      have htk : l.take l.length = l := List.take_of_length_le (Nat.le_refl _)
      have hO := HO.out
      rw [htk] at hO HN
      have hrg : ∀ d ∈ l, rng d.type_ := HN
      obtain ⟨g', cap', rfl, hg1, hg2⟩ := hO.form hn0
      have hjl : (ai7 44 ((l.map sTo).map au0)).length ≤ 1000000000 := by
        have := Go.VP.joinC_le 44 200100 ((l.map sTo).map au0) (fun p hp => by
          obtain ⟨x, hx, rfl⟩ := List.mem_map.1 hp
          obtain ⟨d, hd, rfl⟩ := List.mem_map.1 hx
          exact Go.VP.subT_len (ha d hd).1)
        rw [List.length_map, List.length_map] at this
        have h2 : 200101 * l.length ≤ 200101 * 1000 := Nat.mul_le_mul_left _ hl
        omega
      have hJ := Tryz.join_w g' cap' l.length ((l.map sTo).map au0) w.heap.size W0 (by rw [List.map_map]; exact hO) (by simp) hn0 hjl (by omega)
      have HJ := Lib.hid hJ
      clear hJ hjl hO HO htk
      go_wp2_with (go_at_call 42; refine HJ.out.mono ?_; rintro e w' ⟨rfl, hb'⟩)
      go_ret2
      exact ⟨.inl ⟨hrg, by unfold bi3; rw [List.map_map]; rfl⟩, HL.out.trans (hb'.mono hsz0)⟩
end Go.Proofs
