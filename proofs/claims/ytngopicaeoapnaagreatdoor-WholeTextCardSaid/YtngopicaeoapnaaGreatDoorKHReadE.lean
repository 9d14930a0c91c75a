import Derived.Test.YtngopicaeoapnaaGreatDoorKHReadD
import Derived.Test.YtngopicaeoapnaaGreatDoorKHReadP
import Derived.Laws.Tables
import Derived.Deep.WholeRow
set_option linter.unusedVariables false
set_option linter.unusedSimpArgs false
set_option maxRecDepth 100000
namespace Go.Proofs
open Go.RowKit Go.Sort Go.Lib
open Go.VI
theorem aK1 (m : aa2) {vl vs : Value} (h1 : vl.oneCell' = true) (h2 : vs.oneCell' = true) : (ae2 m vl vs).all (·.oneCell') = true := by
  unfold ae2
  simp [Value.oneCell']
  exact ⟨h1, h2⟩
theorem cv2 {w : World} {B : Nat} {e : TypeId} {sz : Nat} {v : Value} {n : Nat} {xs : List Value} (h : w.ownsRow B e sz v n xs) : ∃ a n' c, v = .slice a n' c := by
  rcases h.2 with ⟨h, _⟩ | ⟨g, cap, _, h, _⟩
  · exact ⟨_, _, _, h⟩
  · exact ⟨_, _, _, h⟩
def an7 : Array Value := ae2 (ak6 0) au6 au6
theorem dL5 {P : Program} {o : Oper} {a : Act} {w : World} {K : Act → World → Prop} {Q : Exit → Act → World → Prop} (N : Nat) (h : o.dst = some N) (hh : Hid (Oper.wp P o a w K Q)) : Oper.wp P o a w K Q := hh
theorem cT3 {P : Program} {o : Oper} {a : Act} {w : World} {K : Act → World → Prop} {Q : Exit → Act → World → Prop} (x : Op) (h : o.op = x) (hh : Hid (Oper.wp P o a w K Q)) : Oper.wp P o a w K Q := hh
theorem aC2 : (Tryz.prog.info? 33).map (·.size) = some an7.size := by kernel_rfl
theorem aw9 (m : aa2) (vl vs : Value) : (Tryz.prog.info? 33).map (·.size) = some (ae2 m vl vs).size := by rw [show (ae2 m vl vs).size = 25 from rfl]; kernel_rfl
theorem aW4 {fn : Func} {p u : Tmp} (h : fn.results = #[.cell p 33, .tmp u]) (tmps : Array Value) (w : World) (g : Nat) (t : TypeId) (cs : Array Value) (fr : Nat × Nat)
    (hp : tmps.getD p undef = .pointer (some ⟨g, 0, none⟩)) (hg : w.heap[g]? = some (.cells cs t fr)) (hi : (Tryz.prog.info? 33).map (·.size) = some cs.size) :
    (results fn tmps).run Tryz.prog w = .ok (.tuple #[.agg cs, tmps.getD u undef]) w := by
  have hp' : tmps[p]?.getD undef = .pointer (some ⟨g, 0, none⟩) := by simpa using hp
  have hl := run_loadVar_row (P := Tryz.prog) w g t 33 cs fr _ hg Tryz.underlying33 rfl hi
  simp [results, h, hp', asAddr, hl]
open Classical in
noncomputable def cO9 : Option (aa2 × List UInt8 × Bool) → Option aa2
  | some (m, _, more) => if more = false ∧ aj9 m = some m then some m else none
  | none => none
theorem eU5 (m : aa2) (r : List UInt8) : cO9 (some (m, r, true)) = none := by
  unfold cO9
  exact if_neg (fun h => Bool.noConfusion h.1)
theorem ee5 {m : aa2} (r : List UInt8) (h : ¬ aj9 m = some m) : cO9 (some (m, r, false)) = none := by
  unfold cO9
  exact if_neg (fun h' => h h'.2)
theorem dU2 {m : aa2} (r : List UInt8) (h : aj9 m = some m) : cO9 (some (m, r, false)) = some m := by
  unfold cO9
  exact if_pos ⟨rfl, h⟩
theorem ev2 {s word rest : List UInt8} {more : Bool} (h : (word, rest, more) = ac4 32 s) : aB6 s = cO9 (al0 fsM (ak6 (ap1 word)) rest more) := by
  unfold aB6
  rw [← h]
  dsimp only
  cases al0 fsM (ak6 (ap1 word)) rest more with
  | none => rfl
  | some x => rfl
theorem ee6 {w : World} {g : Nat} {cs cs' : Array Value} {T : TypeId} {fz : Nat × Nat} (h : w.heap[g]? = some (.cells cs T fz)) : (w.setRow g cs').heap[g]? = some (.cells cs' T fz) := by
  simp [World.setRow, Array.getElem?_modify, h]
theorem But.row {g : Nat} (w : World) (cs : Array Value) : But g w (w.setRow g cs) :=
  ⟨rfl, rfl, rfl, by simp, fun k hk hb => by simp [World.setRow, Array.getElem?_modify, Ne.symm hb]⟩
set_option maxHeartbeats 4000000 in
theorem Tryz.Read_w (s : List UInt8) (w : World) (hs : s.length ≤ 1000000) (henv : envW w) (hw : 4 ≤ w.heap.size) :
    Calls Tryz.prog 8 #[.string ⟨⟨s⟩⟩] w fun e w' => Below w.heap.size w w' ∧
      ((∃ m vl vs, aB6 s = some m ∧ e = .returned (.tuple #[.agg (ae2 m vl vs), .bool true]) ∧ w'.ownsRow w.heap.size 73 2 vl m.list.length (df1 m.list) ∧ w'.ownsRow w.heap.size 75 2 vs m.subs.length (df2 m.subs) ∧ df3 m) ∨
       (aB6 s = none ∧ e = .returned (.tuple #[.agg an7, .bool false]))) := by
  go_enter Tryz.func8, Tryz.ntmps8
  go_wp2_with fail
  change Calls Tryz.prog _ _ (w.alloc (.cells an7 33)) _
  have hb0 : Below w.heap.size w (w.alloc (.cells an7 33)) := (Below.refl _ w).alloc (Nat.le_refl _) _
  have hr0 : (w.alloc (.cells an7 33)).heap[w.heap.size]? = some (.cells an7 33 (0, 0)) := heap_alloc_new w _
  refine (Tryz.cut_w ⟨⟨s⟩⟩ 32 _ hs).mono ?_
  rintro e w1 ⟨rfl, hb1⟩
  have hr1 := Lib.hid ((hb1.block w.heap.size (Array.getElem?_eq_some_iff.1 hr0).1).trans hr0)
  have hL1 := Lib.hid (hb0.trans (hb1.mono hb0.size))
  clear hb0 hr0 hb1
  have hcl := Go.VP.cutC_len 32 s
  rw [show (⟨⟨s⟩⟩ : ByteArray).data.toList = s from rfl]
  obtain ⟨c, hc⟩ : ∃ c, c = ac4 32 s := ⟨_, rfl⟩
  rw [← hc] at hcl ⊢
  obtain ⟨word, rest, more⟩ := c
  have HC := Lib.hid hc
  clear hc
  have hcl1 : word.length ≤ s.length := hcl.1
  have hcl2 : rest.length ≤ s.length := hcl.2
  clear hcl
  go_wp2_with fail
  have henv1 := af9 henv hw hL1.out
  have hz1 : w.heap.size < w1.heap.size := (Array.getElem?_eq_some_iff.1 hr1.out).1
  refine (Tryz.kind_w word w1 (by omega) henv1 (by omega)).mono ?_
  rintro e w2 ⟨rfl, hb2⟩
  have hr2 := Lib.hid ((hb2.block w.heap.size (Array.getElem?_eq_some_iff.1 hr1.out).1).trans hr1.out)
  have hL2 := Lib.hid (hL1.out.trans (hb2.mono (by omega)))
  have hz2 : w1.heap.size ≤ w2.heap.size := hb2.size
  clear hb2 hr1 hL1 henv1
  dsimp only
  iterate 4 (first | go_values | go_skip | go_guarded | go_step | go_upon | go_in | go_back)
  obtain ⟨U0, hU0⟩ : ∃ U : Array Value, U = ae2 (ak6 (ap1 word)) au6 au6 := ⟨_, rfl⟩
  rw [show (Value.agg #[.int .i64 (ap1 word), .int .i64 0, .int .i64 0, .string ⟨#[]⟩, .int .i64 0, .int .i64 0, .string ⟨#[]⟩, .int .i64 0, .int .i64 0, .string ⟨#[]⟩, .int .i64 0, .string ⟨#[]⟩, .int .i64 0, .int .i64 0, .int .i64 0, .int .i64 0, .int .i64 0, .int .i64 0, .int .i64 0, .string ⟨#[]⟩, .string ⟨#[]⟩, .slice none 0 0, .int .i64 0, .string ⟨#[]⟩, .slice none 0 0]) = .agg U0 by rw [hU0]; rfl]
  have hU0s : U0.size = 25 := by rw [hU0]; rfl
  have hU01 : U0.all (·.oneCell') = true := by rw [hU0]; exact aK1 _ rfl rfl
  have hU0i : (Tryz.prog.info? 33).map (·.size) = some U0.size := by rw [hU0s]; kernel_rfl
  iterate 3 (first | go_values | go_skip | go_guarded | go_step | go_upon | go_in | go_back)
  refine wpList_store_row rfl 33 (.tmp 7) (.tmp 23) rfl w2.heap.size U0 rfl rfl 33 _ (heap_alloc_new w2 _) hU0i (by rw [hU0s]; rfl) hU01 ?_
  rw [World.setRow_alloc_new]
  have hb3 : Below w2.heap.size w2 (w2.alloc (.cells U0 33)) := (Below.refl _ w2).alloc (Nat.le_refl _) _
  have hx3 : (w2.alloc (.cells U0 33)).heap[w2.heap.size]? = some (.cells U0 33 (0, 0)) := heap_alloc_new w2 _
  have hz3 : (w2.alloc (.cells U0 33)).heap.size = w2.heap.size + 1 := by simp
  obtain ⟨bm, hbm⟩ : ∃ bm, bm = w2.heap.size := ⟨_, rfl⟩
  generalize (w2.alloc (.cells U0 33)) = w3 at hb3 hx3 hz3 ⊢
  rw [← hbm] at hx3 hz3 ⊢
  have hr3 := Lib.hid ((hb3.block w.heap.size (by omega)).trans hr2.out)
  have hL3 := Lib.hid (hL2.out.trans (hb3.mono (by omega)))
  have HX3 := Lib.hid hx3
  have HU0 := Lib.hid hU0
  have hzb : w.heap.size < bm := by omega
  clear hx3 hr2 hL2 hb3 hU0s hU01 hU0i hU0 hbm hz1 hz2
  go_wp2_with fail
  refine (Tryz.fields_w bm w3).mono ?_
  rintro e w5 ⟨rfl, hw5⟩
  have hb5 : Below w3.heap.size w3 w5 := by rw [hw5]; exact ((Below.refl _ _).alloc (Nat.le_refl _) _).trans (ag4 _ _)
  have HF5 : Hid (w5.heap[w3.heap.size]? = some (.cells (ch8 bm) 64 (0, 0))) := by rw [hw5]; exact heap_alloc_new w3 _
  have hr5 := Lib.hid ((hb5.block w.heap.size (by omega)).trans hr3.out)
  have HX5 := Lib.hid ((hb5.block bm (by omega)).trans HX3.out)
  have hL5 := Lib.hid (hL3.out.trans (hb5.mono (by omega)))
  have hz5 : w3.heap.size ≤ w5.heap.size := hb5.size
  rw [hz3] at HF5 hz5 ⊢
  clear hw5 hb5 hr3 HX3 hL3 hz3
  have hM0 : aP2 w.heap.size w5 bm (ak6 (ap1 word)) au6 au6 := ⟨by rw [← HU0.out]; exact HX5.out, World.ownsRow_nil _ _ _ _, World.ownsRow_nil _ _ _ _⟩
  have HM0 := Lib.hid hM0
  clear hM0 HX5 HU0
  go_wp2_with fail
  obtain ⟨R0, hR0⟩ : ∃ R0, R0 = al0 fsM (ak6 (ap1 word)) rest more := ⟨_, rfl⟩
  have HRL : Hid (aB6 s = cO9 R0) := by rw [hR0]; exact ev2 HC.out
  have HR0 := Lib.hid hR0
  clear hR0
  go_loopw [5, 6, 26] (fun r q i wr => ∃ (k : Nat) (rest' : List UInt8) (more' : Bool) (m : aa2) (vl vs : Value), k ≤ 24 ∧ r = .string ⟨⟨rest'⟩⟩ ∧ q = .bool more' ∧ i = .int .i64 k ∧ rest'.length ≤ 1000000 ∧ Hid (R0 = al0 (fsM.drop k) m rest' more') ∧ Hid (m.kind = ap1 word ∧ ad7 m) ∧ Hid (df3 m) ∧ (k ≤ 20 → m.list = [] ∧ vl = au6) ∧ (k ≤ 23 → m.subs = [] ∧ vs = au6) ∧
    Hid (aP2 w.heap.size wr bm m vl vs) ∧ Hid (Below w.heap.size w wr) ∧ Hid (wr.heap[bm + 1]? = some (.cells (ch8 bm) 64 (0, 0))) ∧ Hid (wr.heap[w.heap.size]? = some (.cells an7 33 (0, 0)))) (fun _ _ i _ => 24 - (RowKit.intOf i).toNat)
  case atStart => exact ⟨0, rest, more, _, _, _, by decide, rfl, rfl, rfl, by omega, HR0, ⟨rfl, Go.VP.zero_nums _⟩, dC4 _, fun _ => ⟨rfl, rfl⟩, fun _ => ⟨rfl, rfl⟩, HM0, hL5, HF5, hr5⟩
  case round =>
    obtain ⟨k, rest', more', m, vl, vs, hk, rfl, rfl, rfl, hrl, HR, HKN, HLen, hml, hms, HM, HL, HF, HZ⟩ := hrel
    rename World => W0
    clear HM0 hL5 HF5 hr5
    have hz0 : w.heap.size + 1 ≤ W0.heap.size := by have := (Array.getElem?_eq_some_iff.1 HZ.out).1; omega
    have hzm : bm + 2 ≤ W0.heap.size := by have := (Array.getElem?_eq_some_iff.1 HF.out).1; omega
    have henv0 := Lib.hid (af9 henv hw HL.out)
    by_cases hlt : k < 24
    · obtain ⟨wd, p1, p2, p3, p4, f, hFI, hf, hfw, hwl2, hrd⟩ := ea8 k hlt bm
      have c0 : W0.cell? ⟨bm + 1, k * 5, none⟩ = some (.string ⟨⟨wd⟩⟩) := (Lib.cell_of_heap HF.out _).trans hFI.c0
      have c1 : W0.cell? ⟨bm + 1, k * 5 + 1, none⟩ = some (.pointer p1) := (Lib.cell_of_heap HF.out _).trans hFI.c1
      have c2 : W0.cell? ⟨bm + 1, k * 5 + 2, none⟩ = some (.pointer p2) := (Lib.cell_of_heap HF.out _).trans hFI.c2
      have c3 : W0.cell? ⟨bm + 1, k * 5 + 3, none⟩ = some (.pointer p3) := (Lib.cell_of_heap HF.out _).trans hFI.c3
      have c4 : W0.cell? ⟨bm + 1, k * 5 + 4, none⟩ = some (.pointer p4) := (Lib.cell_of_heap HF.out _).trans hFI.c4
      have hdk : fsM.drop k = f :: fsM.drop (k + 1) := by
        have := List.getElem?_eq_some_iff.1 hf
        rw [List.drop_eq_getElem_cons this.1, this.2]
      have HRD := Lib.hid hrd
      have Hf := Lib.hid (List.mem_of_getElem? hf)
      have Hfw := Lib.hid hfw
      have HDK := Lib.hid hdk
      clear hrd hf hfw hFI hdk
      have hba : Below W0.heap.size W0 (W0.alloc (.cells #[.string ⟨⟨wd⟩⟩, .pointer p1, .pointer p2, .pointer p3, .pointer p4] 64)) := (Below.refl _ _).alloc (Nat.le_refl _) _
      have HLL := Lib.hid (HL.out.trans (hba.mono (by omega)))
      have HZZ := Lib.hid ((hba.block w.heap.size (by omega)).trans HZ.out)
      have HFF := Lib.hid ((hba.block (bm + 1) (by omega)).trans HF.out)
      have HMM := Lib.hid (HM.out.but (m' := m) (But.of hba) ((hba.block bm (by omega)).trans HM.out.box) rfl rfl)
      have hfz : W0.heap.size < (W0.alloc (.cells #[.string ⟨⟨wd⟩⟩, .pointer p1, .pointer p2, .pointer p3, .pointer p4] 64)).heap.size := by simp
      have HBA := Lib.hid hba
      clear hba
      cases more' with
      | false =>
        have hbm1 : (W0.alloc (.cells #[.string ⟨⟨wd⟩⟩, .pointer p1, .pointer p2, .pointer p3, .pointer p4] 64)).heap[bm]? = some (.cells (ae2 m vl vs) 33 (0, 0)) := HMM.out.box
        have hpc := cO8 (w := (W0.alloc (.cells #[.string ⟨⟨wd⟩⟩, .pointer p1, .pointer p2, .pointer p3, .pointer p4] 64))) (B := w.heap.size) (I := fun b o => ((W0.alloc (.cells #[.string ⟨⟨wd⟩⟩, .pointer p1, .pointer p2, .pointer p3, .pointer p4] 64)).cell? ⟨b, o, none⟩).isSome = true) HMM.out.list HMM.out.subs (by rw [HKN.out.1]; exact Go.VP.kind_rng word) HKN.out.2 HLen.out (fun b o _ h => h)
        have hbr := Tryz.bare_w m (ae2 m vl vs) _ (W0.alloc (.cells #[.string ⟨⟨wd⟩⟩, .pointer p1, .pointer p2, .pointer p3, .pointer p4] 64)) rfl hpc (fun b o h => h) (af9 henv hw HLL.out) (by have := HLL.out.size; omega)
        have HBR := Lib.hid hbr
        have HBM1 := Lib.hid hbm1
        clear hbr hpc hbm1
        repeat (first | (with_reducible apply dL5 (N := 58); · rfl) | go_values | go_skip | go_guarded | go_step | go_upon | go_in | go_back | (simp only [Int.not_lt, Int.not_le] at *; go_simp))
        refine Lib.hid ?_
        refine wp_load_row 33 (.tmp 7) rfl bm rfl 33 (ae2 m vl vs) _ _ HBM1.out Tryz.underlying33 rfl (aw9 m vl vs) ?_
        have HREND : Hid (R0 = some (m, rest', false)) := by show R0 = _; rw [HR.out, HDK.out, al0, if_pos rfl]
        go_wp2_with fail
        cases hB : Go.VP.bareB m with
        | false =>
          rw [hB] at HBR
          refine HBR.out.mono ?_
          rintro e w8 ⟨rfl, hb8⟩
          have HZ8 := Lib.hid ((hb8.block w.heap.size (Array.getElem?_eq_some_iff.1 HZZ.out).1).trans HZZ.out)
          have HL8 := Lib.hid (HLL.out.trans (hb8.mono (by have := HLL.out.size; omega)))
          dsimp only
          repeat (first | (with_reducible apply cT3 (.store 33 (.tmp 2) (.tmp 62)); · rfl) | go_values | go_skip | go_guarded | go_step | go_upon | go_in | go_back | (simp only [Int.not_lt, Int.not_le] at *; go_simp))
          refine Lib.hid ?_
          rw [show (Value.agg #[.int .i64 0, .int .i64 0, .int .i64 0, .string ⟨#[]⟩, .int .i64 0, .int .i64 0, .string ⟨#[]⟩, .int .i64 0, .int .i64 0, .string ⟨#[]⟩, .int .i64 0, .string ⟨#[]⟩, .int .i64 0, .int .i64 0, .int .i64 0, .int .i64 0, .int .i64 0, .int .i64 0, .int .i64 0, .string ⟨#[]⟩, .string ⟨#[]⟩, .slice none 0 0, .int .i64 0, .string ⟨#[]⟩, .slice none 0 0]) = .agg an7 from rfl]
          refine wp_store_row 33 (.tmp 2) (.tmp 62) rfl w.heap.size an7 rfl rfl 33 an7 HZ8.out aC2 rfl (aK1 _ rfl rfl) ?_
          rw [setRow_self _ _ _ _ _ HZ8.out]
          go_wp2
          refine bodyPost_ret (aW4 rfl _ _ w.heap.size 33 an7 _ (by rfl) HZ8.out aC2) rfl ?_
          exact ⟨HL8.out, .inr ⟨by rw [HRL.out, HREND.out]; exact ee5 _ (fun h => by rw [bN2.2 h] at hB; cases hB), rfl⟩⟩
        | true =>
          rw [hB] at HBR
          refine HBR.out.mono ?_
          rintro e w8 ⟨rfl, hb8⟩
          have HZ8 := Lib.hid ((hb8.block w.heap.size (Array.getElem?_eq_some_iff.1 HZZ.out).1).trans HZZ.out)
          have HL8 := Lib.hid (HLL.out.trans (hb8.mono (by have := HLL.out.size; omega)))
          have HM8 := Lib.hid ((hb8.block bm (Array.getElem?_eq_some_iff.1 HBM1.out).1).trans HBM1.out)
          have HO8 := Lib.hid (ai6 HMM.out.list hb8)
          have HS8 := Lib.hid (ai6 HMM.out.subs hb8)
          dsimp only
          repeat (first | (with_reducible apply dL5 (N := 63); · rfl) | go_values | go_skip | go_guarded | go_step | go_upon | go_in | go_back | (simp only [Int.not_lt, Int.not_le] at *; go_simp))
          refine Lib.hid ?_
          refine wp_load_row 33 (.tmp 7) rfl bm rfl 33 (ae2 m vl vs) _ _ HM8.out Tryz.underlying33 rfl (aw9 m vl vs) ?_
          simp only [Act.put, List.setIfInBounds_toArray, List.set_cons_zero, List.set_cons_succ]
          repeat (first | (with_reducible apply cT3 (.store 33 (.tmp 2) (.tmp 63)); · rfl) | go_values | go_skip | go_guarded | go_step | go_upon | go_in | go_back | (simp only [Int.not_lt, Int.not_le] at *; go_simp))
          refine Lib.hid ?_
          have hone : (ae2 m vl vs).all (·.oneCell') = true := by
            obtain ⟨al, nl, cl, rfl⟩ := cv2 HMM.out.list
            obtain ⟨as_, ns, cs, rfl⟩ := cv2 HMM.out.subs
            exact aK1 _ rfl rfl
          refine wp_store_row 33 (.tmp 2) (.tmp 63) rfl w.heap.size (ae2 m vl vs) (by rfl) (by rfl) 33 an7 HZ8.out (aw9 m vl vs) rfl hone ?_
          have hw9 := ee6 (cs' := ae2 m vl vs) HZ8.out
          have HB9 := Lib.hid (But.row (g := w.heap.size) w8 (ae2 m vl vs))
          generalize w8.setRow w.heap.size (ae2 m vl vs) = w9 at hw9 HB9 ⊢
          have HW9 := Lib.hid hw9
          clear hw9
          go_wp2
          refine bodyPost_ret (aW4 rfl _ _ w.heap.size 33 (ae2 m vl vs) _ (by rfl) HW9.out (aw9 m vl vs)) rfl ?_
          refine ⟨HL8.out.trans (HB9.out.below (Nat.le_refl _) (by have := HL8.out.size; omega)), .inl ⟨m, vl, vs, by rw [HRL.out, HREND.out]; exact dU2 _ (bN2.1 hB), rfl, bg5 HO8.out HZ8.out (by decide) HB9.out, bg5 HS8.out HZ8.out (by decide) HB9.out, HLen.out⟩⟩
      | true =>
        have hcell : ∀ j x, (#[.string ⟨⟨wd⟩⟩, .pointer p1, .pointer p2, .pointer p3, .pointer p4] : Array Value)[j]? = some x → (W0.alloc (.cells #[.string ⟨⟨wd⟩⟩, .pointer p1, .pointer p2, .pointer p3, .pointer p4] 64)).cell? ⟨W0.heap.size, j, none⟩ = some x := fun j x hj => by rw [World.cell?_alloc_new]; exact hj
        have HCE := Lib.hid hcell
        clear hcell
        go_wp2_with fail
        refine (Tryz.cut_w ⟨⟨rest'⟩⟩ 32 _ hrl).mono ?_
        rintro e w6 ⟨rfl, hb6⟩
        rw [show (⟨⟨rest'⟩⟩ : ByteArray).data.toList = rest' from rfl]
        have hcl := Go.VP.cutC_len 32 rest'
        obtain ⟨c, hc⟩ : ∃ c, c = ac4 32 rest' := ⟨_, rfl⟩
        rw [← hc] at hcl ⊢
        obtain ⟨head, tail, behind⟩ := c
        have HC2 := Lib.hid hc
        clear hc
        have hcl1' : head.length ≤ rest'.length := hcl.1
        have hcl2' : tail.length ≤ rest'.length := hcl.2
        clear hcl
        have HL6 := Lib.hid (HLL.out.trans (hb6.mono (by have := HLL.out.size; omega)))
        have HZ6 := Lib.hid ((hb6.block w.heap.size (Array.getElem?_eq_some_iff.1 HZZ.out).1).trans HZZ.out)
        have HF6 := Lib.hid ((hb6.block (bm + 1) (Array.getElem?_eq_some_iff.1 HFF.out).1).trans HFF.out)
        have HM6 := Lib.hid (HMM.out.but (m' := m) (But.of hb6) ((hb6.block bm HMM.out.lt).trans HMM.out.box) rfl rfl)
        have d0 : w6.cell? ⟨W0.heap.size, 0, none⟩ = some (.string ⟨⟨wd⟩⟩) := (hb6.cell (p := ⟨W0.heap.size, 0, none⟩) hfz).trans (HCE.out 0 _ rfl)
        have d1 : w6.cell? ⟨W0.heap.size, 1, none⟩ = some (.pointer p1) := (hb6.cell (p := ⟨W0.heap.size, 1, none⟩) hfz).trans (HCE.out 1 _ rfl)
        have d2 : w6.cell? ⟨W0.heap.size, 2, none⟩ = some (.pointer p2) := (hb6.cell (p := ⟨W0.heap.size, 2, none⟩) hfz).trans (HCE.out 2 _ rfl)
        have d3 : w6.cell? ⟨W0.heap.size, 3, none⟩ = some (.pointer p3) := (hb6.cell (p := ⟨W0.heap.size, 3, none⟩) hfz).trans (HCE.out 3 _ rfl)
        have d4 : w6.cell? ⟨W0.heap.size, 4, none⟩ = some (.pointer p4) := (hb6.cell (p := ⟨W0.heap.size, 4, none⟩) hfz).trans (HCE.out 4 _ rfl)
        have hz6 : W0.heap.size < w6.heap.size := by have := hb6.size; omega
        clear hb6 HLL HZZ HFF HMM HCE
        go_wp2_with fail
        refine (Tryz.strings_CutPrefix _ _ _).mono ?_
        rintro e w7 ⟨rfl, hw7⟩
        rw [hw7]
        clear hw7
        have hpd : (⟨⟨wd⟩⟩ ++ ⟨#[61]⟩ : ByteArray).data.toList = wd ++ [61] := rfl
        have hhd : (⟨head.toArray⟩ : ByteArray).data.toList = head := rfl
        rw [hpd, hhd]
        have hstep : R0 = if (wd ++ [61]).isPrefixOf head = true then (f.put (head.drop (wd.length + 1)) m).bind (fun m' => al0 (fsM.drop (k + 1)) m' tail behind) else al0 (fsM.drop (k + 1)) m rest' true := by
          rw [HR.out, HDK.out, al0, if_neg (by simp), ← HC2.out, Hfw.out]
          dsimp only
          cases f.put (head.drop (wd.length + 1)) m <;> rfl
        have HST := Lib.hid hstep
        clear hstep
        unfold Lib.trimPrefix
        cases hp : Lib.hasPrefix head (wd ++ [61]) with
        | false =>
          have hpp : ¬ (wd ++ [61]).isPrefixOf head = true := by
            have hp' : (wd ++ [61] : List UInt8).isPrefixOf head = false := hp
            rw [hp']; simp
          have hR2 := HST.out
          rw [if_neg hpp] at hR2
          have HR2 := Lib.hid hR2
          clear hR2 hpp hp
          go_wp2_with fail
          go_roundw
          case rel => exact ⟨k + 1, rest', true, m, vl, vs, by omega, rfl, rfl, by go_num, hrl, HR2, HKN, HLen, fun h => hml (by omega), fun h => hms (by omega), HM6, HL6, HF6, HZ6⟩
          case measure => simp [RowKit.intOf]; omega
        | true =>
          have hpp : (wd ++ [61]).isPrefixOf head = true := hp
          have hR2 := HST.out
          rw [if_pos hpp] at hR2
          have HR2 := Lib.hid hR2
          rw [if_pos rfl, show (wd ++ [61] : List UInt8).length = wd.length + 1 by simp]
          clear hR2 hpp hp HST
          obtain ⟨what, hwhat⟩ : ∃ what, what = head.drop (wd.length + 1) := ⟨_, rfl⟩
          rw [← hwhat] at HR2 ⊢
          have hwl3 : what.length ≤ 1000000 := by rw [hwhat, List.length_drop]; omega
          have hcall := HRD.out w.heap.size w6 m vl vs what HM6.out hml hms hwl3 HL6.out.size (by omega) (af9 henv hw HL6.out) (by omega)
          have HCA := Lib.hid hcall
          clear hcall HRD hwhat
          cases hput : f.put what m with
          | none =>
            have hcl := HCA.out.mono (R' := fun e w' => e = .returned (.bool false) ∧ But bm w6 w') (fun e w' ⟨hb, h⟩ => by
              rcases h with ⟨_, _, _, h, _⟩ | ⟨_, h⟩
              · rw [hput] at h; cases h
              · exact ⟨h, hb⟩)
            rw [hput] at HR2
            have HCL := Lib.hid hcl
            clear hcl HCA hput
            go_wp2_with fail
            refine HCL.out.mono ?_
            rintro e w8 ⟨rfl, hb8⟩
            have HZ8 := Lib.hid ((hb8.block w.heap.size (Array.getElem?_eq_some_iff.1 HZ6.out).1 (by omega)).trans HZ6.out)
            have HL8 := Lib.hid (HL6.out.trans (hb8.below (by omega) HL6.out.size))
            clear hb8
            dsimp only
            repeat (first | (with_reducible apply cT3 (.store 33 (.tmp 2) (.tmp 52)); · rfl) | go_values | go_skip | go_guarded | go_step | go_upon | go_in | go_back | (simp only [Int.not_lt, Int.not_le] at *; go_simp))
            refine Lib.hid ?_
            rw [show (Value.agg #[.int .i64 0, .int .i64 0, .int .i64 0, .string ⟨#[]⟩, .int .i64 0, .int .i64 0, .string ⟨#[]⟩, .int .i64 0, .int .i64 0, .string ⟨#[]⟩, .int .i64 0, .string ⟨#[]⟩, .int .i64 0, .int .i64 0, .int .i64 0, .int .i64 0, .int .i64 0, .int .i64 0, .int .i64 0, .string ⟨#[]⟩, .string ⟨#[]⟩, .slice none 0 0, .int .i64 0, .string ⟨#[]⟩, .slice none 0 0]) = .agg an7 from rfl]
            refine wp_store_row 33 (.tmp 2) (.tmp 52) rfl w.heap.size an7 rfl rfl 33 an7 HZ8.out aC2 rfl (aK1 _ rfl rfl) ?_
            rw [setRow_self _ _ _ _ _ HZ8.out]
            go_wp2
            refine bodyPost_ret (aW4 rfl _ _ w.heap.size 33 an7 _ (by rfl) HZ8.out aC2) rfl ?_
            exact ⟨HL8.out, .inr ⟨by rw [HRL.out, HR2.out]; rfl, rfl⟩⟩
          | some m2 =>
            have hcl := HCA.out.mono (R' := fun e w' => e = .returned (.bool true) ∧ But bm w6 w' ∧ ∃ vl2 vs2, aP2 w.heap.size w' bm m2 vl2 vs2 ∧ m2.kind = m.kind ∧ (k + 1 ≤ 20 → m2.list = [] ∧ vl2 = au6) ∧ (k + 1 ≤ 23 → m2.subs = [] ∧ vs2 = au6)) (fun e w' ⟨hb, h⟩ => by
              rcases h with ⟨m', vl2, vs2, h, he, h1, h2, h3, h4⟩ | ⟨h, _⟩
              · rw [hput] at h; injection h with h; subst h; exact ⟨he, hb, vl2, vs2, h1, h2, h3, h4⟩
              · rw [hput] at h; cases h)
            have HKN2 := Lib.hid (Go.VP.fsM_inv (ap1 word) f Hf.out what m m2 HKN.out hput)
            have HLen2 := Lib.hid (eE7 hwl3 HLen.out f Hf.out hput)
            rw [hput] at HR2
            have HCL := Lib.hid hcl
            clear hcl HCA hput
            go_wp2_with fail
            refine HCL.out.mono ?_
            rintro e w8 ⟨rfl, hb8, vl2, vs2, hM8, _, hl8, hs8⟩
            have HZ8 := Lib.hid ((hb8.block w.heap.size (Array.getElem?_eq_some_iff.1 HZ6.out).1 (by omega)).trans HZ6.out)
            have HL8 := Lib.hid (HL6.out.trans (hb8.below (by omega) HL6.out.size))
            have HF8 := Lib.hid ((hb8.block (bm + 1) (Array.getElem?_eq_some_iff.1 HF6.out).1 (by omega)).trans HF6.out)
            have HM8 := Lib.hid hM8
            clear hb8 hM8
            go_wp2_with fail
            go_roundw
            case rel => exact ⟨k + 1, tail, behind, m2, vl2, vs2, by omega, rfl, rfl, by go_num, by omega, HR2, HKN2, HLen2, hl8, hs8, HM8, HL8, HF8, HZ8⟩
            case measure => simp [RowKit.intOf]; omega
    · obtain rfl : k = 24 := by omega
      have HLL := HL
      have HZZ := HZ
      have HMM := HM
      have hR24 : R0 = some (m, rest', more') := HR.out
      have HR24 := Lib.hid hR24
      clear hR24
      cases more' with
      | true =>
        repeat (first | (with_reducible apply cT3 (.store 33 (.tmp 2) (.tmp 62)); · rfl) | go_values | go_skip | go_guarded | go_step | go_upon | go_in | go_back | (simp only [Int.not_lt, Int.not_le] at *; go_simp))
        refine Lib.hid ?_
        rw [show (Value.agg #[.int .i64 0, .int .i64 0, .int .i64 0, .string ⟨#[]⟩, .int .i64 0, .int .i64 0, .string ⟨#[]⟩, .int .i64 0, .int .i64 0, .string ⟨#[]⟩, .int .i64 0, .string ⟨#[]⟩, .int .i64 0, .int .i64 0, .int .i64 0, .int .i64 0, .int .i64 0, .int .i64 0, .int .i64 0, .string ⟨#[]⟩, .string ⟨#[]⟩, .slice none 0 0, .int .i64 0, .string ⟨#[]⟩, .slice none 0 0]) = .agg an7 from rfl]
        refine wp_store_row 33 (.tmp 2) (.tmp 62) rfl w.heap.size an7 rfl rfl 33 an7 HZZ.out aC2 rfl (aK1 _ rfl rfl) ?_
        rw [setRow_self _ _ _ _ _ HZZ.out]
        go_wp2
        refine bodyPost_ret (aW4 rfl _ _ w.heap.size 33 an7 _ (by rfl) HZZ.out aC2) rfl ?_
        exact ⟨HLL.out, .inr ⟨by rw [HRL.out, HR24.out]; exact eU5 _ _, rfl⟩⟩
      | false =>
        have hbm1 : W0.heap[bm]? = some (.cells (ae2 m vl vs) 33 (0, 0)) := HMM.out.box
        have hpc := cO8 (w := W0) (B := w.heap.size) (I := fun b o => (W0.cell? ⟨b, o, none⟩).isSome = true) HMM.out.list HMM.out.subs (by rw [HKN.out.1]; exact Go.VP.kind_rng word) HKN.out.2 HLen.out (fun b o _ h => h)
        have hbr := Tryz.bare_w m (ae2 m vl vs) _ W0 rfl hpc (fun b o h => h) (af9 henv hw HLL.out) (by have := HLL.out.size; omega)
        have HBR := Lib.hid hbr
        have HBM1 := Lib.hid hbm1
        clear hbr hpc hbm1
        repeat (first | (with_reducible apply dL5 (N := 58); · rfl) | go_values | go_skip | go_guarded | go_step | go_upon | go_in | go_back | (simp only [Int.not_lt, Int.not_le] at *; go_simp))
        refine Lib.hid ?_
        refine wp_load_row 33 (.tmp 7) rfl bm rfl 33 (ae2 m vl vs) _ _ HBM1.out Tryz.underlying33 rfl (aw9 m vl vs) ?_
        have HREND := HR24
        go_wp2_with fail
        cases hB : Go.VP.bareB m with
        | false =>
          rw [hB] at HBR
          refine HBR.out.mono ?_
          rintro e w8 ⟨rfl, hb8⟩
          have HZ8 := Lib.hid ((hb8.block w.heap.size (Array.getElem?_eq_some_iff.1 HZZ.out).1).trans HZZ.out)
          have HL8 := Lib.hid (HLL.out.trans (hb8.mono (by have := HLL.out.size; omega)))
          dsimp only
          repeat (first | (with_reducible apply cT3 (.store 33 (.tmp 2) (.tmp 62)); · rfl) | go_values | go_skip | go_guarded | go_step | go_upon | go_in | go_back | (simp only [Int.not_lt, Int.not_le] at *; go_simp))
          refine Lib.hid ?_
          rw [show (Value.agg #[.int .i64 0, .int .i64 0, .int .i64 0, .string ⟨#[]⟩, .int .i64 0, .int .i64 0, .string ⟨#[]⟩, .int .i64 0, .int .i64 0, .string ⟨#[]⟩, .int .i64 0, .string ⟨#[]⟩, .int .i64 0, .int .i64 0, .int .i64 0, .int .i64 0, .int .i64 0, .int .i64 0, .int .i64 0, .string ⟨#[]⟩, .string ⟨#[]⟩, .slice none 0 0, .int .i64 0, .string ⟨#[]⟩, .slice none 0 0]) = .agg an7 from rfl]
          refine wp_store_row 33 (.tmp 2) (.tmp 62) rfl w.heap.size an7 rfl rfl 33 an7 HZ8.out aC2 rfl (aK1 _ rfl rfl) ?_
          rw [setRow_self _ _ _ _ _ HZ8.out]
          go_wp2
          refine bodyPost_ret (aW4 rfl _ _ w.heap.size 33 an7 _ (by rfl) HZ8.out aC2) rfl ?_
          exact ⟨HL8.out, .inr ⟨by rw [HRL.out, HREND.out]; exact ee5 _ (fun h => by rw [bN2.2 h] at hB; cases hB), rfl⟩⟩
        | true =>
          rw [hB] at HBR
          refine HBR.out.mono ?_
          rintro e w8 ⟨rfl, hb8⟩
          have HZ8 := Lib.hid ((hb8.block w.heap.size (Array.getElem?_eq_some_iff.1 HZZ.out).1).trans HZZ.out)
          have HL8 := Lib.hid (HLL.out.trans (hb8.mono (by have := HLL.out.size; omega)))
          have HM8 := Lib.hid ((hb8.block bm (Array.getElem?_eq_some_iff.1 HBM1.out).1).trans HBM1.out)
          have HO8 := Lib.hid (ai6 HMM.out.list hb8)
          have HS8 := Lib.hid (ai6 HMM.out.subs hb8)
          dsimp only
          repeat (first | (with_reducible apply dL5 (N := 63); · rfl) | go_values | go_skip | go_guarded | go_step | go_upon | go_in | go_back | (simp only [Int.not_lt, Int.not_le] at *; go_simp))
          refine Lib.hid ?_
          refine wp_load_row 33 (.tmp 7) rfl bm rfl 33 (ae2 m vl vs) _ _ HM8.out Tryz.underlying33 rfl (aw9 m vl vs) ?_
          simp only [Act.put, List.setIfInBounds_toArray, List.set_cons_zero, List.set_cons_succ]
          repeat (first | (with_reducible apply cT3 (.store 33 (.tmp 2) (.tmp 63)); · rfl) | go_values | go_skip | go_guarded | go_step | go_upon | go_in | go_back | (simp only [Int.not_lt, Int.not_le] at *; go_simp))
          refine Lib.hid ?_
          have hone : (ae2 m vl vs).all (·.oneCell') = true := by
            obtain ⟨al, nl, cl, rfl⟩ := cv2 HMM.out.list
            obtain ⟨as_, ns, cs, rfl⟩ := cv2 HMM.out.subs
            exact aK1 _ rfl rfl
          refine wp_store_row 33 (.tmp 2) (.tmp 63) rfl w.heap.size (ae2 m vl vs) (by rfl) (by rfl) 33 an7 HZ8.out (aw9 m vl vs) rfl hone ?_
          have hw9 := ee6 (cs' := ae2 m vl vs) HZ8.out
          have HB9 := Lib.hid (But.row (g := w.heap.size) w8 (ae2 m vl vs))
          generalize w8.setRow w.heap.size (ae2 m vl vs) = w9 at hw9 HB9 ⊢
          have HW9 := Lib.hid hw9
          clear hw9
          go_wp2
          refine bodyPost_ret (aW4 rfl _ _ w.heap.size 33 (ae2 m vl vs) _ (by rfl) HW9.out (aw9 m vl vs)) rfl ?_
          refine ⟨HL8.out.trans (HB9.out.below (Nat.le_refl _) (by have := HL8.out.size; omega)), .inl ⟨m, vl, vs, by rw [HRL.out, HREND.out]; exact dU2 _ (bN2.1 hB), rfl, bg5 HO8.out HZ8.out (by decide) HB9.out, bg5 HS8.out HZ8.out (by decide) HB9.out, HLen.out⟩⟩
end Go.Proofs
