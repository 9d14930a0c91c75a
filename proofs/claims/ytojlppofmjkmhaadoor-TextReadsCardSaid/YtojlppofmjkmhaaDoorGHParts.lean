import Derived.Test.YtojlppofmjkmhaaDoorGHReadF
import Derived.Laws.OwnMore
import Derived.BigCall
import Derived.StillTailTactics
import Derived.IntWalk
import Derived.Lib.ItoaMem
set_option linter.unusedVariables false
set_option linter.unusedSimpArgs false
namespace Go.Proofs
open Go.Shelf Go.RowKit Go.Lib
open Go.VI (splitC)
theorem splitC_ne (c : UInt8) : ∀ (l : List UInt8), splitC c l ≠ []
  | [], h => by cases h
  | x :: r, h => by
    rw [splitC] at h
    split at h
    · cases h
    · split at h <;> cases h
theorem splitC_hit (c : UInt8) : ∀ (l : List UInt8), splitC c (l ++ [c]) = splitC c l ++ [[]]
  | [] => by simp [splitC]
  | x :: r => by
    rw [List.cons_append, splitC, splitC, splitC_hit c r]
    split
    · rfl
    · cases h : splitC c r with
      | nil => exact absurd h (splitC_ne c r)
      | cons a b => rfl
theorem splitC_miss (c x : UInt8) (hx : ¬ x = c) : ∀ (l : List UInt8), splitC c (l ++ [x]) = (splitC c l).set ((splitC c l).length - 1) ((splitC c l).getD ((splitC c l).length - 1) [] ++ [x])
  | [] => by simp [splitC, hx]
  | y :: r => by
    have hne := splitC_ne c r
    rw [List.cons_append, splitC, splitC, splitC_miss c x hx r]
    by_cases hy : y = c
    · rw [if_pos hy, if_pos hy]
      obtain ⟨n, hn⟩ : ∃ n, (splitC c r).length = n + 1 := ⟨(splitC c r).length - 1, by have := List.length_pos_iff.2 hne; omega⟩
      rw [hn]
      simp [hn]
    · rw [if_neg hy, if_neg hy]
      cases h : splitC c r with
      | nil => exact absurd h hne
      | cons a b =>
        cases b with
        | nil => simp
        | cons d e => simp
theorem bytes_eq9 (s : ByteArray) : (⟨⟨s.data.toList⟩⟩ : ByteArray) = s := by cases s; rfl
theorem extract_one (s : ByteArray) (k : Nat) (h : k < s.size) : (s.extract k (k + 1)).data.toList = [s[k]] := by
  rw [Lib.extract_data, List.drop_eq_getElem_cons (by simpa using h), show k + 1 - k = 1 by omega]
  rfl
def PartsPost (c : UInt8) (s : List UInt8) (w : World) (e : Ending) (w' : World) : Prop := ∃ g cap, e = .returned (.slice (some ⟨g, 0, none⟩) (splitC c s).length cap) ∧ Below w.heap.size w w' ∧ w'.ownsRow w.heap.size 9 1 (.slice (some ⟨g, 0, none⟩) (splitC c s).length cap) (splitC c s).length ((splitC c s).map fun x => .string ⟨⟨x⟩⟩)
set_option maxHeartbeats 4000000 in
set_option maxRecDepth 100000 in
theorem Tryd.partsW (s : ByteArray) (c : UInt8) (w : World) (hs : s.size ≤ 1000000) :
    Calls Tryd.prog 32 #[.string s, .int .u8 (c.toNat : Int)] w (PartsPost c s.data.toList w) := by
  have hinfo : (Tryd.prog.info? 9).map (fun i => (i.zero, i.size, i.bytes)) = some (some (.string ByteArray.empty), 1, 16) := by kernel_rfl
  obtain ⟨i0, hi, hz0, hz1, hz2⟩ := info_parts hinfo
  have ho0 : (w.alloc (.cells #[.string ⟨#[]⟩] 9)).ownsRow w.heap.size 9 1 (.slice (some ⟨w.heap.size, 0, none⟩) 1 1) 1 [.string ⟨#[]⟩] := World.ownsRow_lit w #[.string ⟨#[]⟩] 1 (Nat.le_refl _) (by decide) rfl
  have b0 : Below w.heap.size w (w.alloc (.cells #[.string ⟨#[]⟩] 9)) := (Below.refl _ w).alloc (Nat.le_refl _) _
  clear hinfo
  have HI := Lib.hid hi
  have HZ0 := Lib.hid hz0
  have HZ1 := Lib.hid hz1
  have HZ2 := Lib.hid hz2
  clear hi hz0 hz1 hz2
  go_enter Tryd.func32, Tryd.ntmps32
  go_wp2
  go_loopw [5, 6] (fun v i wr => ∃ k g cap n : Nat, k ≤ s.size ∧ i = .int .i64 k ∧ v = .slice (some ⟨g, 0, none⟩) n cap ∧ Hid (n = (splitC c (s.data.toList.take k)).length) ∧ Hid (wr.ownsRow w.heap.size 9 1 (.slice (some ⟨g, 0, none⟩) n cap) n ((splitC c (s.data.toList.take k)).map st)) ∧ Hid (Below w.heap.size w wr)) (fun _ i _ => s.size - (RowKit.intOf i).toNat)
  case atStart => exact ⟨0, w.heap.size, 1, 1, Nat.zero_le _, rfl, rfl, rfl, ho0, b0⟩
  case round =>
    obtain ⟨k, g, cap, n, hk, rfl, rfl, HN, HO, HL⟩ := hrel
    rename World => W0
    have hsz0 : w.heap.size ≤ W0.heap.size := HL.out.size
    have hn1 : 1 ≤ n := by rw [HN.out]; exact List.length_pos_iff.2 (splitC_ne c _)
    have hnk : n ≤ k + 1 := by rw [HN.out, Go.VI.splitC_len]; have := List.count_le_length (a := c) (l := s.data.toList.take k); have : (s.data.toList.take k).length ≤ k := List.length_take_le _ _; omega
    by_cases hlt : k < s.size
    · have hts : s.data.toList.take (k + 1) = s.data.toList.take k ++ [s[k]] := by
        rw [List.take_succ_eq_append_getElem (by simpa using hlt)]; rfl
      have HT := Lib.hid hts
      clear hts
      by_cases hc : s[k] = c
      · have hcb : ((s[k].toNat : Int) == (c.toNat : Int)) = true := by rw [hc]; simp
        have HC := Lib.hid hc
        clear hc
        have howA := HO.out.alloc (.cells #[.string ⟨#[]⟩] 9)
        have HOA := Lib.hid howA
        clear howA
        go_wp2_with (at_builtin; refine wpList_append_own _ rfl _ _ 66 rfl w.heap.size 9 i0 (.string ByteArray.empty) 1 16 Tryd.underlying66 HI.out HZ0.out HZ1.out HZ2.out rfl (by decide) _ _ _ rfl HOA.out ⟨W0.heap.size, 0, none⟩ 1 1 [.string ⟨#[]⟩] rfl rfl ?c1 ?c2 ?c3 ?c4 ?c5 ?_)
        case c1 =>
          intro j u hj
          match j, hj with
          | 0, hj => injection hj with hj; subst hj; rw [Lib.add_plain, World.cell?_alloc_new]; rfl
        case c2 => intro u hu; rw [List.mem_singleton.1 hu]; rfl
        case c3 => unfold maxLen; omega
        case c4 => omega
        case c5 => simp; omega
        intro v' w2 hown' hgrow _
        obtain ⟨g', cap', rfl⟩ : ∃ g' cap', v' = .slice (some ⟨g', 0, none⟩) (n + 1) cap' := by
          rcases hown'.2 with ⟨_, h0⟩ | ⟨g', cap', cur, hv, _⟩
          · omega
          · exact ⟨g', cap', hv⟩
        have hL2 : Below w.heap.size w w2 := (HL.out.alloc hsz0 _).grown hgrow (by simp; omega) (fun k hk => (HOA.out.lt k hk).1)
        have HL2 := Lib.hid hL2
        have HO2 := Lib.hid hown'
        clear hL2 hown' hgrow HOA
        go_wp2
        go_roundw
        case rel =>
          refine ⟨k + 1, g', cap', n + 1, by omega, by go_num, rfl, Lib.hid ?_, Lib.hid ?_, HL2⟩
          · rw [HT.out, HC.out, splitC_hit, List.length_append, ← HN.out]; rfl
          · rw [HT.out, HC.out, splitC_hit, List.map_append]; exact HO2.out
        case measure => simp [RowKit.intOf]; omega
      · have hcb : ((s[k].toNat : Int) == (c.toNat : Int)) = false := by
          rw [beq_eq_false_iff_ne]; intro e; exact hc (UInt8.toNat.inj (by omega))
        have hcb2 : ¬ ((s[k].toNat : Int) = (c.toNat : Int)) := fun e => hc (UInt8.toNat.inj (by omega))
        have HC := Lib.hid hc
        clear hc
        obtain ⟨last, hlast⟩ : ∃ last : List UInt8, last = (splitC c (s.data.toList.take k)).getD (n - 1) [] := ⟨_, rfl⟩
        have hcell : W0.cell? ⟨g, n - 1, none⟩ = some (.string ⟨⟨last⟩⟩) := by
          rw [HO.out.cellAt (n - 1) (by omega), List.getElem?_map, hlast, List.getD_eq_getElem?_getD]
          have : n - 1 < (splitC c (s.data.toList.take k)).length := by rw [← HN.out]; omega
          rw [List.getElem?_eq_getElem this]
          rfl
        have hfz := HO.out.frozenAt (n - 1)
        have hll : last.length ≤ 1000000 := by
          have hm : n - 1 < (splitC c (s.data.toList.take k)).length := by rw [← HN.out]; omega
          have := Go.VI.splitC_small c (s.data.toList.take k) last (by rw [hlast, List.getD_eq_getElem?_getD, List.getElem?_eq_getElem hm]; exact List.getElem_mem hm)
          have : (s.data.toList.take k).length ≤ k := List.length_take_le _ _
          omega
        have hex : (s.extract k (k + 1)).size ≤ 1 := by rw [ByteArray.size_extract]; omega
        have hls : (⟨⟨last⟩⟩ : ByteArray).size = last.length := rfl
        have hcat : ∀ W, (Op.stringOp .add (⟨⟨last⟩⟩ : ByteArray) (s.extract k (k + 1))).run Tryd.prog W = .ok (.string (⟨⟨last⟩⟩ ++ s.extract k (k + 1))) W := fun W => run_string_add_sum W _ _ (by rw [hls]; omega)
        clear hls
        have HLast := Lib.hid hlast
        clear hlast
        have e1 : IntKind.i64.wrap ((n : Int) - 1) = (n : Int) - 1 := IntWalk.i64_in _ (by omega)
        have e2 : IntKind.i64.wrap ((k : Int) + 1) = (k : Int) + 1 := IntWalk.i64_in _ (by omega)
        have e3 : ((n : Int) - 1).toNat = n - 1 := by omega
        have e4 : ((k : Int) + 1).toNat = k + 1 := by omega
        have hb1 : 1 ≤ (n : Int) := by omega
        have hb2 : (n : Int) - 1 < (n : Int) := by omega
        have hb3 : 0 ≤ (n : Int) - 1 := by omega
        have hb4 : 0 < n := by omega
        have hk3 : (k : Int) + 1 ≤ (s.size : Int) := by omega
        have hk4 : (k : Int) ≤ (k : Int) + 1 := by omega
        have hk5 : 0 ≤ (k : Int) + 1 := by omega
        go_wp2_with fail
        go_still_tail 17, (by kernel_rfl)
        change wpList _ _ _ _ _ W0.drew
        go_wp2
        go_roundw
        case rel =>
          have hg := (HO.out.lt g rfl).1
          have hex1 : (⟨⟨last⟩⟩ ++ s.extract k (k + 1) : ByteArray) = ⟨⟨last ++ [s[k]]⟩⟩ := by
            have : (s.extract k (k + 1)).data.toList = [s[k]] := extract_one s k hlt
            show (⟨⟨last⟩⟩ ++ s.extract k (k + 1) : ByteArray) = _
            rw [← bytes_eq9 (s.extract k (k + 1)), this]
            rfl
          have hst := (HO.out.stored (n - 1) (.string (⟨⟨last⟩⟩ ++ s.extract k (k + 1)))).1.drew
          have hlen : (splitC c (s.data.toList.take (k + 1))).length = (splitC c (s.data.toList.take k)).length := by
            rw [HT.out, splitC_miss c _ HC.out, List.length_set]
          refine ⟨k + 1, g, cap, n, by omega, by go_num, rfl, Lib.hid (by rw [hlen]; exact HN.out), Lib.hid ?_, Lib.hid ((HL.out.setCell (p := ⟨g, n - 1, none⟩) hg _).trans ⟨rfl, rfl, rfl, Nat.le_refl _, fun _ _ => rfl⟩)⟩
          rw [HT.out, splitC_miss c _ HC.out, ← HN.out, List.map_set, ← HLast.out]
          rw [hex1] at hst ⊢
          exact hst
        case measure => simp [RowKit.intOf]; omega
    · obtain rfl : k = s.size := by omega
      have htk : s.data.toList.take s.size = s.data.toList := List.take_of_length_le (by simp)
      have HTK := Lib.hid htk
      clear htk
      go_wp2
      go_ret
      have h1 := HN.out
      have h2 := HO.out
      rw [HTK.out] at h1 h2
      refine ⟨g, cap, ?_, HL.out, ?_⟩
      · rw [← h1]; rfl
      · rw [← h1]; exact h2
end Go.Proofs
