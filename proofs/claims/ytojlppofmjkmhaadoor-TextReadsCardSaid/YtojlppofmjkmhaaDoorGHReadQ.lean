import Derived.Test.YtojlppofmjkmhaaDoorGHSetB
import Derived.Test.YtojlppofmjkmhaaDoorGM1
set_option linter.unusedVariables false
set_option linter.unusedSimpArgs false
set_option maxRecDepth 100000
namespace Go.VI
open Go Go.Proofs Go.RowKit
theorem pc_of_msgQ {B : Nat} {w : World} {I : Nat → Nat → Prop} {m : XMsg} {vl vs : Value} (hl : w.ownsRow B 38 2 vl m.list.length (lRow m.list)) (hs : w.ownsRow B 40 2 vs m.subs.length (bRow m.subs)) (hN : Go.VP.QB 1000 m)
    (hI : ∀ b o, B ≤ b → (w.cell? ⟨b, o, none⟩).isSome = true → I b o) : ∀ (j : Nat) c, (T_api_Msg.enc false m : List (CV U.τ))[j]? = some c → ∃ x, (mcells m vl vs)[j]? = some x ∧ PC Tryd.prog U w I c x := by
  have n64 : ∀ {n : Int}, Go.VP.big n → PC Tryd.prog U w I (.int .i64 n) (.int .i64 n) := fun h => PC.int _ _ (has64x ⟨by have := h.1; omega, by have := h.2; omega⟩)
  have s64 : ∀ {s : List UInt8}, s.length ≤ 1000000 → PC Tryd.prog U w I (.str s) (.string ⟨⟨s⟩⟩) := fun {s} h => PC.str _ (show (s.length : Int) ≤ 9223372036854775807 by omega)
  intro j c hj
  match j, hj with
  | 0, hj => injection hj with hj; subst hj; exact ⟨_, rfl, PC.int _ _ (has64x (x := m.kind) ⟨by have := hN.kind; omega, by have := hN.kind; omega⟩)⟩
  | 1, hj => injection hj with hj; subst hj; exact ⟨_, rfl, n64 hN.cmd⟩
  | 2, hj => injection hj with hj; subst hj; exact ⟨_, rfl, n64 hN.ver⟩
  | 3, hj => injection hj with hj; subst hj; exact ⟨_, rfl, s64 (Nat.le_trans hN.auth (by decide))⟩
  | 4, hj => injection hj with hj; subst hj; exact ⟨_, rfl, n64 hN.family⟩
  | 5, hj => injection hj with hj; subst hj; exact ⟨_, rfl, n64 hN.ae⟩
  | 6, hj => injection hj with hj; subst hj; exact ⟨_, rfl, s64 (Nat.le_trans hN.prefix_ (by decide))⟩
  | 7, hj => injection hj with hj; subst hj; exact ⟨_, rfl, n64 hN.plen⟩
  | 8, hj => injection hj with hj; subst hj; exact ⟨_, rfl, n64 hN.tag⟩
  | 9, hj => injection hj with hj; subst hj; exact ⟨_, rfl, s64 (Nat.le_trans hN.next (by decide))⟩
  | 10, hj => injection hj with hj; subst hj; exact ⟨_, rfl, n64 hN.metric⟩
  | 11, hj => injection hj with hj; subst hj; exact ⟨_, rfl, s64 (Nat.le_trans hN.id (by decide))⟩
  | 12, hj => injection hj with hj; subst hj; exact ⟨_, rfl, n64 hN.seq⟩
  | 13, hj => injection hj with hj; subst hj; exact ⟨_, rfl, n64 hN.seq2⟩
  | 14, hj => injection hj with hj; subst hj; exact ⟨_, rfl, n64 hN.interval⟩
  | 15, hj => injection hj with hj; subst hj; exact ⟨_, rfl, n64 hN.flags⟩
  | 16, hj => injection hj with hj; subst hj; exact ⟨_, rfl, n64 hN.hops⟩
  | 17, hj => injection hj with hj; subst hj; exact ⟨_, rfl, n64 hN.nonce⟩
  | 18, hj => injection hj with hj; subst hj; exact ⟨_, rfl, n64 hN.cost⟩
  | 19, hj => injection hj with hj; subst hj; exact ⟨_, rfl, s64 (Nat.le_trans hN.addr (by decide))⟩
  | 20, hj => injection hj with hj; subst hj; exact ⟨_, rfl, s64 (Nat.le_trans hN.orig (by decide))⟩
  | 21, hj => injection hj with hj; subst hj; exact ⟨_, rfl, pc_of_own (e := 38) (B := B) (enc2 := fun d => (.str d.addr, .int .i64 d.seq)) (cl := dCells) (by kernel_rfl) rfl (by have := hN.list.1; show (m.list.length : Int) ≤ 9223372036854775807; omega) (fun d hd => ⟨s64 (by have := (hN.list.2 d hd).1; omega), n64 (hN.list.2 d hd).2⟩) hI hl⟩
  | 22, hj => injection hj with hj; subst hj; exact ⟨_, rfl, n64 hN.type_⟩
  | 23, hj => injection hj with hj; subst hj; exact ⟨_, rfl, s64 (Nat.le_trans hN.data (by decide))⟩
  | 24, hj => injection hj with hj; subst hj; exact ⟨_, rfl, pc_of_own (e := 40) (B := B) (enc2 := fun d => (.int .i64 d.type_, .str d.data)) (cl := sCells) (by kernel_rfl) rfl (by have := hN.subs.1; show (m.subs.length : Int) ≤ 9223372036854775807; omega) (fun d hd => ⟨n64 (hN.subs.2 d hd).2, s64 (by have := (hN.subs.2 d hd).1; omega)⟩) hI hs⟩
  | j + 25, hj => cases hj
end Go.VI
namespace Go.Proofs
open Go.RowKit Go.Sort Go.Lib
open Go.VI
theorem Tryd.rword_w (k : Int) (w : World) (hk : -9223372036854775808 ≤ k ∧ k ≤ 9223372036854775807) (henv : envW w) (hw : 4 ≤ w.heap.size) :
    Calls Tryd.prog 12 #[.int .i64 k] w fun e w' => e = .returned (.string ⟨⟨wordM k⟩⟩) ∧ Below w.heap.size w w' := by
  have h := ok_at e_ref29_Word_ok (k, ()) _ (Go.VP.rword_is k)
  refine (plain_calls (I := noI) h rfl (arg1_int hk) (noI_cell w) henv hw).mono fun e w' ⟨u, he, hb, J, _, hr⟩ => ?_
  rw [ret_str hr] at he
  exact ⟨he, hb⟩
theorem Tryd.rprint_w (m : XMsg) (us : Array Value) (I : Nat → Nat → Prop) (w : World) (hS : SmallM m) (hu : us.size = 25) (hv : ∀ (j : Nat) c, (T_api_Msg.enc false m : List (CV U.τ))[j]? = some c → ∃ x, us[j]? = some x ∧ PC Tryd.prog U w I c x)
    (hi : ∀ b o, I b o → (w.cell? ⟨b, o, none⟩).isSome = true) (henv : envW w) (hw : 4 ≤ w.heap.size) :
    Calls Tryd.prog 10 #[.agg us] w fun e w' => e = .returned (.tuple #[.string ⟨⟨(printM m).getD []⟩⟩, .bool (printM m).isSome]) ∧ Below w.heap.size w w' := by
  have h := ok_at e_ref29_Print_ok (m, ()) _ (Go.VP.rprint_is hS)
  refine (plain_calls (I := I) h rfl (.val _ _ _ _ _ _ ⟨us, rfl, hu, hv⟩ (.nil _)) hi henv hw).mono fun e w' ⟨u, he, hb, J, _, hr⟩ => ?_
  obtain ⟨us, rfl, hsz, hat⟩ := tup_at hr
  obtain ⟨x, hx, c, hc, hpc⟩ := hat 0 false _ rfl
  cases hc
  obtain ⟨y, hy, c, hc, hpd⟩ := hat 1 false _ rfl
  cases hc
  rw [two_at hsz hx hy, pc_str hpc, ret_bool hpd] at he
  exact ⟨he, hb⟩
theorem exec_load_row {P : Program} {o : Oper} {ρ : Operand → Value} {w : World} (ty : TypeId) (x : Operand) (ho : o.op = .load ty x) (g : Nat) (hx : ρ x = .pointer (some ⟨g, 0, none⟩)) (t : TypeId) (cs : Array Value) (fr : Nat × Nat) (d : TypeDesc) (hg : w.heap[g]? = some (.cells cs t fr))
    (hu : P.underlying ty = some d) (hd : (match d with | .struct _ | .array _ _ => true | _ => false) = true) (hi : (P.info? ty).map (·.size) = some cs.size) : (execOp ρ o).run P w = .ok (.value (.agg cs)) w := by
  have h := run_loadVar_row (P := P) w g t ty cs fr d hg hu hd hi
  unfold execOp
  rw [ho]
  simp only [hx, Instr.loadAt, Instr.sureAddr, Sem.run_bind, Sem.run_pure, Result.andThen_ok, h]
theorem want_step {P : Program} {o : Oper} {a : Act} {w : World} {K : Act → World → Prop} {Q : Exit → Act → World → Prop} {E : Prop} {y : Nat → Option Bool} (h : Region.wanted o y = true) (hh : Oper.wp P o a w K Q) : if Region.wanted o y = true then Oper.wp P o a w K Q else E := by rw [if_pos h]; exact hh
theorem below_keeps {B : Nat} {w W W' : World} {vl vs vl' vs' : Value} {el es : TypeId} {n1 n2 z1 z2 : Nat} {x1 x2 : List Value} (hb : Below B w W) (hB : B ≤ w.heap.size) (h : Keeps W W' vl vs vl' vs') (hl : W.ownsRow B el z1 vl n1 x1) (hs : W.ownsRow B es z2 vs n2 x2) : Below B w W' :=
  ⟨h.os.trans hb.os, h.tape.trans hb.tape, h.output.trans hb.output, Nat.le_trans hb.size h.size, fun k hk => (h.block k (Nat.lt_of_lt_of_le hk (Nat.le_trans hB hb.size)) (fun e => by have := (hl.lt k e).1; omega) (fun e => by have := (hs.lt k e).1; omega)).trans (hb.block k hk)⟩
structure SR (bm g5 : Nat) (U : Array Value) (a b : List UInt8) (W : World) : Prop where
  box : W.heap[bm]? = some (.cells U 25 (0, 0))
  c0 : W.cell? ⟨g5, 0, none⟩ = some (.string ⟨⟨a⟩⟩)
  c1 : W.cell? ⟨g5, 1, none⟩ = some (.string ⟨⟨b⟩⟩)
set_option maxHeartbeats 4000000 in
theorem Tryd.ReadQ_w (s : List UInt8) (w : World) (hs : s.length ≤ 1000) (henv : envW w) (hw : 4 ≤ w.heap.size) :
    Calls Tryd.prog 14 #[.string ⟨⟨s⟩⟩] w fun e w' => Below w.heap.size w w' ∧
      ((∃ vl vs, printM (foldQ s) = some s ∧ e = .returned (.tuple #[.agg (mcells (foldQ s) vl vs), .bool true]) ∧ w'.ownsRow w.heap.size 38 2 vl (foldQ s).list.length (lRow (foldQ s).list) ∧ w'.ownsRow w.heap.size 40 2 vs (foldQ s).subs.length (bRow (foldQ s).subs)) ∨
       (¬ printM (foldQ s) = some s ∧ e = .returned (.tuple #[.agg zeroU, .bool false]))) := by
  go_enter Tryd.func14, Tryd.ntmps14
  go_wp2_with fail
  change Calls Tryd.prog _ _ (w.alloc (.cells zeroU 25)) _
  have hb0 : Below w.heap.size w (w.alloc (.cells zeroU 25)) := (Below.refl _ w).alloc (Nat.le_refl _) _
  have hr0 : (w.alloc (.cells zeroU 25)).heap[w.heap.size]? = some (.cells zeroU 25 (0, 0)) := heap_alloc_new w _
  have hz0 : (w.alloc (.cells zeroU 25)).heap.size = w.heap.size + 1 := by simp
  generalize w.alloc (.cells zeroU 25) = W0 at hb0 hr0 hz0 ⊢
  have hp := Tryd.partsW ⟨⟨s⟩⟩ 32 W0 (by show s.length ≤ 1000000; omega)
  rw [show (((32 : UInt8).toNat : Nat) : Int) = 32 from rfl] at hp
  refine hp.mono ?_
  clear hp
  rintro e W1 ⟨g, cap, rfl, hb1, hown1⟩
  obtain ⟨ps, hps⟩ : ∃ ps, ps = splitC 32 s := ⟨_, rfl⟩
  have hown1' : W1.ownsRow W0.heap.size 9 1 (.slice (some ⟨g, 0, none⟩) ps.length cap) ps.length (ps.map st) := by rw [hps]; exact hown1
  have hp1 : 1 ≤ ps.length := by rw [hps]; exact List.length_pos_iff.2 (splitC_ne _ _)
  have hpn : ps.length ≤ 1001 := by rw [hps, Go.VI.splitC_len]; have := List.count_le_length (a := 32) (l := s); omega
  have hsm : ∀ x ∈ ps, x.length ≤ 1000 := fun x hx => by rw [hps] at hx; have := Go.VI.splitC_small 32 s x hx; omega
  rw [← hps]
  have hglt := hown1'.lt g rfl
  obtain ⟨csg, hcg⟩ := own_row hown1'
  have HO1 := Lib.hid hown1'
  have HPS := Lib.hid hps
  have hr1 := (hb1.block w.heap.size (by omega)).trans hr0
  have hL1 := hb0.trans (hb1.mono (by omega))
  have hz1 := hb1.size
  clear hown1 hown1' hps hb1 hb0 hr0
  dsimp only
  repeat (first | (with_reducible apply gateO (.store 25 (.tmp 5) (.tmp 13)); · rfl) | go_values | go_skip | go_guarded | go_step | go_upon | go_in | go_back | (simp only [Int.not_lt, Int.not_le] at *; go_simp))
  refine Lib.hid ?_
  refine wp_store_row 25 (.tmp 5) (.tmp 13) rfl W1.heap.size zeroU rfl rfl 25 zeroU (heap_alloc_new W1 _) size_zeroU rfl (mcells_one _ rfl rfl) ?_
  rw [show (Obj.cells #[.int .i64 0, .int .i64 0, .int .i64 0, .string ⟨#[]⟩, .int .i64 0, .int .i64 0, .string ⟨#[]⟩, .int .i64 0, .int .i64 0, .string ⟨#[]⟩, .int .i64 0, .string ⟨#[]⟩, .int .i64 0, .int .i64 0, .int .i64 0, .int .i64 0, .int .i64 0, .int .i64 0, .int .i64 0, .string ⟨#[]⟩, .string ⟨#[]⟩, .slice none 0 0, .int .i64 0, .string ⟨#[]⟩, .slice none 0 0] 25) = Obj.cells zeroU 25 from rfl]
  rw [World.setRow_alloc_new]
  rw [show (Value.agg #[.int .i64 0, .int .i64 0, .int .i64 0, .string ⟨#[]⟩, .int .i64 0, .int .i64 0, .string ⟨#[]⟩, .int .i64 0, .int .i64 0, .string ⟨#[]⟩, .int .i64 0, .string ⟨#[]⟩, .int .i64 0, .int .i64 0, .int .i64 0, .int .i64 0, .int .i64 0, .int .i64 0, .int .i64 0, .string ⟨#[]⟩, .string ⟨#[]⟩, .slice none 0 0, .int .i64 0, .string ⟨#[]⟩, .slice none 0 0]) = .agg zeroU from rfl]
  generalize Value.agg zeroU = Z13
  have hb2 : Below W1.heap.size W1 (W1.alloc (.cells zeroU 25)) := (Below.refl _ _).alloc (Nat.le_refl _) _
  have hx2 : (W1.alloc (.cells zeroU 25)).heap[W1.heap.size]? = some (.cells (mcells (zeroM 0) nil0 nil0) 25 (0, 0)) := heap_alloc_new W1 _
  obtain ⟨bm, hbm⟩ : ∃ bm, bm = W1.heap.size := ⟨_, rfl⟩
  generalize W1.alloc (.cells zeroU 25) = W2 at hb2 hx2 ⊢
  rw [← hbm] at hx2 hb2 ⊢
  have HX2 := Lib.hid hx2
  have HG2 := Lib.hid ((hb2.block g (by omega)).trans hcg)
  have HR2 := Lib.hid ((hb2.block w.heap.size (by omega)).trans hr1)
  have HL2 := Lib.hid (hL1.trans (hb2.mono (by omega)))
  have hbw : w.heap.size < bm := by omega
  have hgw : w.heap.size < g := by omega
  have hgb : g < bm := by omega
  clear hx2 hb2 hr1 hL1 hbm hz0 hz1 hglt
  obtain ⟨l0, hl0⟩ : ∃ l0, ps[0]? = some l0 := ⟨_, List.getElem?_eq_getElem (by omega)⟩
  have hc0 : csg[0]? = some (Value.string ⟨⟨l0⟩⟩) := by
    have h1 := HO1.out.cellAt 0 (by omega)
    rw [List.getElem?_map, hl0] at h1
    rw [← Lib.cell_of_heap hcg 0]
    exact h1
  have hcs : ∀ k x, ps[k]? = some x → csg[k]? = some (Value.string ⟨⟨x⟩⟩) := fun k x hk => by
    have h1 := HO1.out.cellAt k (by have := (List.getElem?_eq_some_iff.1 hk).1; omega)
    rw [List.getElem?_map, hk] at h1
    rw [← Lib.cell_of_heap hcg k]
    exact h1
  clear hcg HO1
  have hpi0 : (0 : Int) < (ps.length : Int) := by omega
  have hpi1 : (0 : Int) ≤ (ps.length : Int) := by omega
  have hpi2 : 0 < ps.length := by omega
  go_wp2_with fail
  go_loopw [6] (fun i wr => ∃ k : Nat, 1 ≤ k ∧ k ≤ 15 ∧ i = .int .i64 k ∧ Hid (wr.heap[bm]? = some (.cells (mcells (zeroM (Go.VP.kindU l0 (k - 1))) nil0 nil0) 25 (0, 0))) ∧ Hid (wr.heap[g]? = some (.cells csg 9 (0, 0))) ∧ Hid (wr.heap[w.heap.size]? = some (.cells zeroU 25 (0, 0))) ∧ Hid (Below w.heap.size w wr)) (fun i _ => 15 - (RowKit.intOf i).toNat)
  case atStart => exact ⟨1, by decide, by decide, rfl, HX2, HG2, HR2, HL2⟩
  case round =>
    obtain ⟨k, hk1, hk, rfl, HB, HG, HR, HL⟩ := hrel
    rename World => W
    have hbz : bm < W.heap.size := (Array.getElem?_eq_some_iff.1 HB.out).1
    have hg0 : W.cell? ⟨g, 0, none⟩ = some (.string ⟨⟨l0⟩⟩) := (Lib.cell_of_heap HG.out 0).trans hc0
    by_cases h14 : k ≤ 14
    · have henvD : envW W.drew := env_below (env_below henv hw HL.out) (Nat.le_refl 4) (drew_below W 4)
      have hSD : W.drew.cell? ⟨g, 0, none⟩ = some (.string ⟨⟨l0⟩⟩) := hg0
      have hzD : bm < W.drew.heap.size := hbz
      go_wp2_with fail
      go_region_held3 (fun W' => W'.cell? ⟨g, 0, none⟩ = some (.string ⟨⟨l0⟩⟩))
        (first | exact hSD | assumption | exact (hb'.cell (p := ⟨g, 0, none⟩) (by show g < _; omega)).trans hSD)
        (first | (go_at_call 12; refine (Tryd.rword_w (k : Int) _ (by omega) henvD (by omega)).mono ?_; rintro e w' ⟨rfl, hb'⟩))
      have hB' := (hb'.block bm hzD).trans HB.out
      have hG' := (hb'.block g (by omega)).trans HG.out
      have hR' := (hb'.block w.heap.size (by omega)).trans HR.out
      have hL' := (HL.out.trans (drew_below W _)).trans (hb'.mono (by omega))
      have hcb : w'.cell? ⟨bm, 0, none⟩ = some (.int .i64 (Go.VP.kindU l0 (k - 1))) := Lib.cell_of_heap hB' 0
      have hzb : w'.frozen? ⟨bm, 0, none⟩ = false := Lib.frozen_of_heap hB' 0
      by_cases hwd : wordM (k : Int) = l0
      · have hbq : (wordM (k : Int) == l0) = true := by simpa using hwd
        have hBn := heap_setCell_same w' bm 0 _ _ (.int .i64 (k : Int)) hB'
        have HBn := Lib.hid hBn
        have HGn := Lib.hid ((heap_setCell_other w' ⟨bm, 0, none⟩ g (.int .i64 (k : Int)) (by show g ≠ bm; omega)).trans hG')
        have HRn := Lib.hid ((heap_setCell_other w' ⟨bm, 0, none⟩ w.heap.size (.int .i64 (k : Int)) (by show w.heap.size ≠ bm; omega)).trans hR')
        have HLn := Lib.hid (hL'.setCell (p := ⟨bm, 0, none⟩) (by show w.heap.size ≤ bm; omega) (.int .i64 (k : Int)))
        have HW := Lib.hid hwd
        clear hb' hB' hG' hR' hL' hBn hwd hSD hg0
        rw [hbq]
        clear hbq
        go_wp2_with fail
        go_roundw
        case rel =>
          refine ⟨k + 1, by omega, by omega, by go_num, ?_, HGn, HRn, HLn⟩
          have : Go.VP.kindU l0 (k + 1 - 1) = (k : Int) := by
            obtain ⟨j, rfl⟩ : ∃ j, k = j + 1 := ⟨k - 1, by omega⟩
            rw [show j + 1 + 1 - 1 = j + 1 by omega, Go.VP.kindU, if_pos HW.out]
          rw [this]
          exact HBn
        case measure => simp [RowKit.intOf]; omega
      · have hbq : (wordM (k : Int) == l0) = false := by simpa using hwd
        have HW := Lib.hid hwd
        have HBn := Lib.hid hB'
        have HGn := Lib.hid hG'
        have HRn := Lib.hid hR'
        have HLn := Lib.hid hL'
        clear hb' hB' hG' hR' hL' hwd hSD hg0 hcb hzb
        rw [hbq]
        clear hbq
        go_wp2_with fail
        go_roundw
        case rel =>
          refine ⟨k + 1, by omega, by omega, by go_num, ?_, HGn, HRn, HLn⟩
          have : Go.VP.kindU l0 (k + 1 - 1) = Go.VP.kindU l0 (k - 1) := by
            obtain ⟨j, rfl⟩ : ∃ j, k = j + 1 := ⟨k - 1, by omega⟩
            rw [show j + 1 + 1 - 1 = j + 1 by omega, Go.VP.kindU, if_neg HW.out]
            rfl
          rw [this]
          exact HBn
        case measure => simp [RowKit.intOf]; omega
    · obtain rfl : k = 15 := by omega
      rw [show (((15 : Nat) : Int)) = 15 from rfl]
      clear hg0
      rw [show 15 - 1 = 14 from rfl, Go.VP.kindU_M] at HB
      obtain ⟨z, hz⟩ : ∃ z, z = kindM l0 := ⟨_, rfl⟩
      rw [← hz] at HB
      have hzr : 0 ≤ z ∧ z ≤ 14 := by rw [hz]; exact Go.VP.kind_rng l0
      have HFQ : Hid (foldQ s = (ps.drop 1).foldl partQ (zeroM z)) := by
        show foldQ s = _
        unfold foldQ
        rw [← HPS.out, hz]
        congr 2
        rw [List.getD_eq_getElem?_getD, hl0]; rfl
      clear hz HX2 HG2 HR2 HL2 hc0 hl0
      have HB1 := HB
      go_wp2_with fail
      go_loopw [7] (fun i wr => ∃ (k : Nat) (vk vs : Value), 1 ≤ k ∧ k ≤ ps.length ∧ i = .int .i64 k ∧ Hid (wr.heap[bm]? = some (.cells (mcells (((ps.take k).drop 1).foldl partQ (zeroM z)) vk vs) 25 (0, 0))) ∧ Hid (wr.ownsRow w.heap.size 38 2 vk (((ps.take k).drop 1).foldl partQ (zeroM z)).list.length (lRow (((ps.take k).drop 1).foldl partQ (zeroM z)).list)) ∧
        Hid (wr.ownsRow w.heap.size 40 2 vs (((ps.take k).drop 1).foldl partQ (zeroM z)).subs.length (bRow (((ps.take k).drop 1).foldl partQ (zeroM z)).subs)) ∧ Hid (wr.heap[g]? = some (.cells csg 9 (0, 0))) ∧ Hid (wr.heap[w.heap.size]? = some (.cells zeroU 25 (0, 0))) ∧ Hid (Below w.heap.size w wr)) (fun i _ => ps.length - (RowKit.intOf i).toNat)
      case atStart =>
        have h1 : (ps.take 1).drop 1 = [] := List.drop_of_length_le (by rw [List.length_take]; omega)
        refine ⟨1, nil0, nil0, by omega, hp1, rfl, ?_, ?_, ?_, HG, HR, HL⟩
        · rw [h1]; exact HB1
        · rw [h1]; exact World.ownsRow_nil _ _ _ _
        · rw [h1]; exact World.ownsRow_nil _ _ _ _
      case round =>
        obtain ⟨k, vk, vs, hk1, hk, rfl, HBK, HLK, HSK, HGK, HRK, HKK⟩ := hrel
        rename World => W4
        have hQ := Go.VP.qb_line hs k hzr
        rw [← HPS.out] at hQ
        obtain ⟨M, hM⟩ : ∃ M, M = ((ps.take k).drop 1).foldl partQ (zeroM z) := ⟨_, rfl⟩
        rw [← hM] at HBK HLK HSK hQ
        have HM := Lib.hid hM
        clear hM
        have hbm4 : bm < W4.heap.size := (Array.getElem?_eq_some_iff.1 HBK.out).1
        by_cases hlt : k < ps.length
        · obtain ⟨pk, hpk⟩ : ∃ pk, ps[k]? = some pk := ⟨_, List.getElem?_eq_getElem hlt⟩
          have hpl := hsm pk (List.mem_of_getElem? hpk)
          have hcell : W4.cell? ⟨g, k, none⟩ = some (.string ⟨⟨pk⟩⟩) := (Lib.cell_of_heap HGK.out k).trans (hcs k pk hpk)
          go_wp2_with fail
          have hp := Tryd.partsW ⟨⟨pk⟩⟩ 61 W4 (by show pk.length ≤ 1000000; omega)
          rw [show (((61 : UInt8).toNat : Nat) : Int) = 61 from rfl] at hp
          refine hp.mono ?_
          clear hp hcell
          rintro e W5 ⟨g5, cap5, rfl, hb5, hown5⟩
          have hB5 := (hb5.block bm hbm4).trans HBK.out
          have hG5 := (hb5.block g (by omega)).trans HGK.out
          have hR5 := (hb5.block w.heap.size (by omega)).trans HRK.out
          have hl5 := own_below HLK.out hb5
          have hs5 := own_below HSK.out hb5
          have hL5 := HKK.out.trans (hb5.mono (by omega))
          have hz5 := hb5.size
          clear HBK HLK HSK HGK HRK HKK hb5
          dsimp only
          have hpart : ((ps.take (k + 1)).drop 1).foldl partQ (zeroM z) = partQ M pk := by
            rw [List.take_succ_eq_append_getElem hlt, List.drop_append_of_le_length (by rw [List.length_take]; omega), List.foldl_append, ← HM.out, (List.getElem?_eq_some_iff.1 hpk).2]
            rfl
          by_cases h2 : (splitC 61 pk).length = 2
          · obtain ⟨a, b, hab⟩ : ∃ a b, splitC 61 pk = [a, b] := by
              match hh : splitC 61 pk, h2 with
              | [a, b], _ => exact ⟨a, b, rfl⟩
            have hal : a.length ≤ 1000000 ∧ b.length ≤ 1000000 := by
              have h1 := Go.VI.splitC_small 61 pk a (by rw [hab]; simp)
              have h2 := Go.VI.splitC_small 61 pk b (by rw [hab]; simp)
              omega
            have hown5' : W5.ownsRow W4.heap.size 9 1 (.slice (some ⟨g5, 0, none⟩) 2 cap5) 2 [st a, st b] := by
              have h1 : W5.ownsRow W4.heap.size 9 1 (.slice (some ⟨g5, 0, none⟩) (splitC 61 pk).length cap5) (splitC 61 pk).length ((splitC 61 pk).map st) := hown5
              rw [hab] at h1; exact h1
            rw [h2]
            have hset : partQ M pk = setQ M a b := by unfold partQ; rw [hab]
            have hg5 := hown5'.lt g5 rfl
            obtain ⟨cs5, hg5c⟩ := own_row hown5'
            have hc0 : W5.cell? ⟨g5, 0, none⟩ = some (.string ⟨⟨a⟩⟩) := hown5'.cellAt 0 (by decide)
            have hc1 : W5.cell? ⟨g5, 1, none⟩ = some (.string ⟨⟨b⟩⟩) := hown5'.cellAt 1 (by decide)
            have hq1 : M.list.length ≤ 1000000 := by have := hQ.list.1; omega
            have hq2 : M.subs.length ≤ 1000000 := by have := hQ.subs.1; omega
            have henv5 : envW W5.drew := env_below (env_below henv hw hL5) (Nat.le_refl 4) (drew_below W5 4)
            have HSET := Lib.hid (hpart.trans hset)
            clear hown5 hown5' hab h2 hpart hset
            go_wp2_with fail
            have hSR : SR bm g5 (mcells M vk vs) a b W5.drew := ⟨hB5, hc0, hc1⟩
            have hl5d := own_below hl5 (drew_below W5 _)
            have hs5d := own_below hs5 (drew_below W5 _)
            have hg5c : W5.drew.heap[g5]? = some (.cells cs5 9 (0, 0)) := hg5c
            refine wpBut.start (L := 8) (S := SR bm g5 (mcells M vk vs) a b) (by kernel_rfl) ?_
            refine wpBut.take (i := 0) (v := ?_) _ (by simp only [List.getElem?_toArray, List.getElem?_cons_succ, List.getElem?_cons_zero]; exact rfl) (by kernel_rfl) (by simp only [List.getElem?_toArray, List.getElem?_cons_succ, List.getElem?_cons_zero]; exact rfl) (by kernel_rfl) (by kernel_rfl) (by kernel_rfl) (by decide) ?q0 ?y0 (by assumption) ?_
            case q0 => exact fun _ _ _ h => h
            case y0 => exact Or.inl ⟨rfl, fun w' hSw => by refine exec_load_row 25 (.tmp 5) ?_ bm ?_ 25 _ _ _ hSw.box Tryd.underlying25 rfl (size_mcells _ _ _) <;> rfl⟩
            (try simp only [Act.put, List.setIfInBounds_toArray, List.set_cons_zero, List.set_cons_succ])
            refine wpBut.take (i := 1) (v := ?_) _ (by simp only [List.getElem?_toArray, List.getElem?_cons_succ, List.getElem?_cons_zero]; exact rfl) (by kernel_rfl) (by simp only [List.getElem?_toArray, List.getElem?_cons_succ, List.getElem?_cons_zero]; exact rfl) (by kernel_rfl) (by kernel_rfl) (by kernel_rfl) (by decide) ?q1 ?y1 (by assumption) ?_
            case q1 => exact fun _ _ _ h => h
            case y1 => exact Or.inl ⟨rfl, fun w' hSw => by obtain ⟨q1, q2, q3⟩ := hSw; go_simp; (try with_reducible rfl)⟩
            (try simp only [Act.put, List.setIfInBounds_toArray, List.set_cons_zero, List.set_cons_succ])
            refine wpBut.take (i := 2) (v := ?_) _ (by simp only [List.getElem?_toArray, List.getElem?_cons_succ, List.getElem?_cons_zero]; exact rfl) (by kernel_rfl) (by simp only [List.getElem?_toArray, List.getElem?_cons_succ, List.getElem?_cons_zero]; exact rfl) (by kernel_rfl) (by kernel_rfl) (by kernel_rfl) (by decide) ?q2 ?y2 (by assumption) ?_
            case q2 => exact fun _ _ _ h => h
            case y2 => exact Or.inl ⟨rfl, fun w' hSw => by obtain ⟨q1, q2, q3⟩ := hSw; go_simp; (try with_reducible rfl)⟩
            (try simp only [Act.put, List.setIfInBounds_toArray, List.set_cons_zero, List.set_cons_succ])
            refine wpBut.take (i := 3) (v := ?_) _ (by simp only [List.getElem?_toArray, List.getElem?_cons_succ, List.getElem?_cons_zero]; exact rfl) (by kernel_rfl) (by simp only [List.getElem?_toArray, List.getElem?_cons_succ, List.getElem?_cons_zero]; exact rfl) (by kernel_rfl) (by kernel_rfl) (by kernel_rfl) (by decide) ?q3 ?y3 (by assumption) ?_
            case q3 => exact fun _ _ _ h => h
            case y3 => exact Or.inl ⟨rfl, fun w' hSw => by obtain ⟨q1, q2, q3⟩ := hSw; go_simp; (try with_reducible rfl)⟩
            (try simp only [Act.put, List.setIfInBounds_toArray, List.set_cons_zero, List.set_cons_succ])
            refine wpBut.take (i := 4) (v := ?_) _ (by simp only [List.getElem?_toArray, List.getElem?_cons_succ, List.getElem?_cons_zero]; exact rfl) (by kernel_rfl) (by simp only [List.getElem?_toArray, List.getElem?_cons_succ, List.getElem?_cons_zero]; exact rfl) (by kernel_rfl) (by kernel_rfl) (by kernel_rfl) (by decide) ?q4 ?y4 (by assumption) ?_
            case q4 => exact fun _ _ _ h => h
            case y4 => exact Or.inl ⟨rfl, fun w' hSw => by obtain ⟨q1, q2, q3⟩ := hSw; go_simp; (try with_reducible rfl)⟩
            (try simp only [Act.put, List.setIfInBounds_toArray, List.set_cons_zero, List.set_cons_succ])
            refine wpBut.take (i := 5) (v := ?_) _ (by simp only [List.getElem?_toArray, List.getElem?_cons_succ, List.getElem?_cons_zero]; exact rfl) (by kernel_rfl) (by simp only [List.getElem?_toArray, List.getElem?_cons_succ, List.getElem?_cons_zero]; exact rfl) (by kernel_rfl) (by kernel_rfl) (by kernel_rfl) (by decide) ?q5 ?y5 (by assumption) ?_
            case q5 => exact fun _ _ _ h => h
            case y5 => exact Or.inl ⟨rfl, fun w' hSw => by obtain ⟨q1, q2, q3⟩ := hSw; go_simp; (try with_reducible rfl)⟩
            (try simp only [Act.put, List.setIfInBounds_toArray, List.set_cons_zero, List.set_cons_succ])
            refine wpBut.take (i := 6) (v := ?_) _ (by simp only [List.getElem?_toArray, List.getElem?_cons_succ, List.getElem?_cons_zero]; exact rfl) (by kernel_rfl) (by simp only [List.getElem?_toArray, List.getElem?_cons_succ, List.getElem?_cons_zero]; exact rfl) (by kernel_rfl) (by kernel_rfl) (by kernel_rfl) (by decide) ?q6 ?y6 (by assumption) ?_
            case q6 => exact fun _ _ _ h => h
            case y6 => exact Or.inl ⟨rfl, fun w' hSw => by obtain ⟨q1, q2, q3⟩ := hSw; go_simp; (try with_reducible rfl)⟩
            (try simp only [Act.put, List.setIfInBounds_toArray, List.set_cons_zero, List.set_cons_succ])
            refine wpBut.one (i := 7) (by kernel_rfl) (by simp only [List.getElem?_toArray, List.getElem?_cons_succ, List.getElem?_cons_zero]; exact rfl) (fun K hK => ?_)
            go_simp
            refine (Tryd.set_w w.heap.size (M) vk vs a b W5.drew hal.2 henv5 (by show 4 ≤ W5.heap.size; omega) (by show w.heap.size ≤ W5.heap.size; omega) hl5d hs5d (fun V hV => Tryd.more_w w.heap.size M vk vs a b V hal.2 (env_below henv5 (by show 4 ≤ W5.heap.size; omega) hV) (Nat.le_trans (by show 4 ≤ W5.heap.size; omega) hV.size) (Nat.le_trans (by show w.heap.size ≤ W5.heap.size; omega) hV.size) (own_below hl5d hV) (own_below hs5d hV) hw hq1 hq2)).mono ?_
            rintro e W6 ⟨vl', vs', rfl, o1, o2, kp⟩
            have hS6 : SR bm g5 (mcells M vk vs) a b W6 := ⟨(kp.block bm (by show bm < W5.heap.size; omega) (fun e => own_ne hl5d hSR.box (by decide) e.symm) (fun e => own_ne hs5d hSR.box (by decide) e.symm)).trans hSR.box, (World.cell?_of_block (a := ⟨g5, 0, none⟩) (kp.block g5 (by show g5 < W5.heap.size; omega) (fun e => own_ne hl5d hg5c (by decide) e.symm) (fun e => own_ne hs5d hg5c (by decide) e.symm))).trans hSR.c0, (World.cell?_of_block (a := ⟨g5, 1, none⟩) (kp.block g5 (by show g5 < W5.heap.size; omega) (fun e => own_ne hl5d hg5c (by decide) e.symm) (fun e => own_ne hs5d hg5c (by decide) e.symm))).trans hSR.c1⟩
            dsimp only
            refine hK.out _ _ (fun _ => hS6) ?_
            clear hK K
            (try simp only [Act.put, List.setIfInBounds_toArray, List.set_cons_zero, List.set_cons_succ])
            have h1 : vl'.oneCell' = true := by obtain ⟨a, n, c, rfl⟩ := own_form o1; rfl
            have h2' : vs'.oneCell' = true := by obtain ⟨a, n, c, rfl⟩ := own_form o2; rfl
            refine wpBut.one (i := 8) (by kernel_rfl) (by simp only [List.getElem?_toArray, List.getElem?_cons_succ, List.getElem?_cons_zero]; exact rfl) (fun K hK => ?_)
            refine want_step rfl ?_
            refine wp_store_row 25 (.tmp 5) (.tmp 47) rfl bm (mcells (setQ M a b) vl' vs') rfl rfl 25 _ hS6.box (size_mcells _ _ _) rfl (mcells_one _ h1 h2') ?_
            refine hK.out _ _ (fun h => absurd rfl h) ?_
            clear hK K
            (try simp only [Act.put, List.setIfInBounds_toArray, List.set_cons_zero, List.set_cons_succ])
            refine wpBut.done (by kernel_rfl) ?_ _
            have hbut : But bm W6 (W6.setRow bm (mcells (setQ M a b) vl' vs')) := But.row _ _
            have hz6 : W5.heap.size ≤ W6.heap.size := kp.size
            have hgD : W5.drew.heap[g]? = some (.cells csg 9 (0, 0)) := hG5
            have hrD : W5.drew.heap[w.heap.size]? = some (.cells zeroU 25 (0, 0)) := hR5
            have hg6 := (kp.block g (by show g < W5.heap.size; omega) (fun e => own_ne hl5d hgD (by decide) e.symm) (fun e => own_ne hs5d hgD (by decide) e.symm)).trans hgD
            have hr6 := (kp.block w.heap.size (by show w.heap.size < W5.heap.size; omega) (fun e => own_ne hl5d hrD (by decide) e.symm) (fun e => own_ne hs5d hrD (by decide) e.symm)).trans hrD
            have HBn := Lib.hid (row_set (cs' := mcells (setQ M a b) vl' vs') hS6.box)
            have HGn := Lib.hid ((hbut.block g (by omega) (by omega)).trans hg6)
            have HRn := Lib.hid ((hbut.block w.heap.size (by omega) (by omega)).trans hr6)
            have HLn := Lib.hid (own_but o1 hS6.box (by decide) hbut)
            have HSn := Lib.hid (own_but o2 hS6.box (by decide) hbut)
            have HKn := Lib.hid (below_row (below_keeps (hL5.trans (drew_below W5 _)) (Nat.le_refl _) kp hl5d hs5d) (by omega : w.heap.size ≤ bm) (mcells (setQ M a b) vl' vs'))
            clear hbut hgD hrD hg6 hr6 o1 o2 kp hS6 hSR hl5d hs5d hl5 hs5 hB5 hG5 hR5 hL5 hg5c hc0 hc1
            generalize W6.setRow bm (mcells (setQ M a b) vl' vs') = W7 at HBn HGn HRn HLn HSn HKn ⊢
            go_wp2_with fail
            go_roundw
            case rel =>
              refine ⟨k + 1, vl', vs', by omega, by omega, by go_num, ?_, ?_, ?_, HGn, HRn, HKn⟩
              · rw [HSET.out]; exact HBn
              · rw [HSET.out]; exact HLn
              · rw [HSET.out]; exact HSn
            case measure => simp [RowKit.intOf]; omega
          · have hb2 : (((splitC 61 pk).length : Int) == 2) = false := by rw [beq_eq_false_iff_ne]; omega
            have hb2' : ¬ ((splitC 61 pk).length : Int) = 2 := by omega
            have hset : partQ M pk = M := by
              unfold partQ
              split
              · rename_i hh; rw [hh] at h2; exact absurd rfl h2
              · rfl
            have HSET := Lib.hid (hpart.trans hset)
            have HBn := Lib.hid hB5
            have HGn := Lib.hid hG5
            have HRn := Lib.hid hR5
            have HLn := Lib.hid hl5
            have HSn := Lib.hid hs5
            have HKn := Lib.hid hL5
            clear h2 hset hpart hown5 hB5 hG5 hR5 hl5 hs5 hL5
            go_wp2_with fail
            go_roundw
            case rel =>
              refine ⟨k + 1, vk, vs, by omega, by omega, by go_num, ?_, ?_, ?_, HGn, HRn, HKn⟩
              · rw [HSET.out]; exact HBn
              · rw [HSET.out]; exact HLn
              · rw [HSET.out]; exact HSn
            case measure => simp [RowKit.intOf]; omega
        · obtain rfl : k = ps.length := by omega
          have htk : ps.take ps.length = ps := List.take_of_length_le (Nat.le_refl _)
          have hFM : foldQ s = M := by rw [HFQ.out, HM.out, htk]
          have HF := Lib.hid hFM
          clear htk hFM HFQ HM
          repeat (first | (with_reducible apply gateD (N := 49); · rfl) | go_values | go_skip | go_guarded | go_step | go_upon | go_in | go_back | (simp only [Int.not_lt, Int.not_le] at *; go_simp))
          refine Lib.hid ?_
          refine wp_load_row 25 (.tmp 5) rfl bm rfl 25 (mcells M vk vs) _ _ HBK.out Tryd.underlying25 rfl (size_mcells _ _ _) ?_
          go_wp2_with fail
          have hpc := pc_of_msgQ (w := W4) (B := w.heap.size) (I := fun b o => (W4.cell? ⟨b, o, none⟩).isSome = true) HLK.out HSK.out hQ (fun b o _ h => h)
          refine (Tryd.rprint_w M (mcells M vk vs) _ W4 hQ.small rfl hpc (fun b o h => h) (env_below henv hw HKK.out) (by have := HKK.out.size; omega)).mono ?_
          rintro e W5 ⟨rfl, hb5⟩
          have HB5 := Lib.hid ((hb5.block bm hbm4).trans HBK.out)
          have HR5 := Lib.hid ((hb5.block w.heap.size (by omega)).trans HRK.out)
          have HL5 := Lib.hid (own_below HLK.out hb5)
          have HS5 := Lib.hid (own_below HSK.out hb5)
          have HK5 := Lib.hid (HKK.out.trans (hb5.mono (by have := HKK.out.size; omega)))
          have hvk1 : vk.oneCell' = true := by obtain ⟨a, n, c, rfl⟩ := own_form HLK.out; rfl
          have hvs1 : vs.oneCell' = true := by obtain ⟨a, n, c, rfl⟩ := own_form HSK.out; rfl
          clear hb5 hpc HBK HRK HLK HSK HKK
          dsimp only
          cases hP : printM M with
          | none =>
            rw [show (none : Option (List UInt8)).isSome = false from rfl]
            have hF : ¬ printM (foldQ s) = some s := by rw [HF.out, hP]; simp
            have HFn := Lib.hid hF
            clear hF hP
            repeat (first | (with_reducible apply gateO (.store 25 (.tmp 2) (.tmp 60)); · rfl) | go_values | go_skip | go_guarded | go_step | go_upon | go_in | go_back | (simp only [Int.not_lt, Int.not_le] at *; go_simp))
            refine Lib.hid ?_
            rw [show (Value.agg #[.int .i64 0, .int .i64 0, .int .i64 0, .string ⟨#[]⟩, .int .i64 0, .int .i64 0, .string ⟨#[]⟩, .int .i64 0, .int .i64 0, .string ⟨#[]⟩, .int .i64 0, .string ⟨#[]⟩, .int .i64 0, .int .i64 0, .int .i64 0, .int .i64 0, .int .i64 0, .int .i64 0, .int .i64 0, .string ⟨#[]⟩, .string ⟨#[]⟩, .slice none 0 0, .int .i64 0, .string ⟨#[]⟩, .slice none 0 0]) = .agg zeroU from rfl]
            refine wp_store_row 25 (.tmp 2) (.tmp 60) rfl w.heap.size zeroU rfl rfl 25 zeroU HR5.out size_zeroU rfl (mcells_one _ rfl rfl) ?_
            rw [setRow_self _ _ _ _ _ HR5.out]
            go_wp2
            refine bodyPost_ret (results_ct rfl _ _ w.heap.size 25 zeroU _ (by rfl) HR5.out size_zeroU) rfl ?_
            exact ⟨HK5.out, .inr ⟨HFn.out, rfl⟩⟩
          | some t =>
            rw [show (some t).isSome = true from rfl, show (some t).getD [] = t from rfl]
            by_cases hts : t = s
            · have hF : printM (foldQ s) = some s := by rw [HF.out, hP, hts]
              have HFn := Lib.hid hF
              have hbq : (t != s) = false := by simp [hts]
              have hbq2 : (t == s) = true := by simp [hts]
              clear hF hP
              repeat (first | (with_reducible apply gateD (N := 61); · rfl) | go_values | go_skip | go_guarded | go_step | go_upon | go_in | go_back | (simp only [Int.not_lt, Int.not_le] at *; go_simp))
              rename_i K1 hk1 K hk
              refine Lib.hid ?_
              refine wp_load_row 25 (.tmp 5) rfl bm rfl 25 (mcells M vk vs) _ _ HB5.out Tryd.underlying25 rfl (size_mcells _ _ _) ?_
              refine hk _ _ ?_
              refine wpList_store_row rfl 25 (.tmp 2) (.tmp 61) rfl w.heap.size (mcells M vk vs) rfl rfl 25 zeroU HR5.out (size_mcells _ _ _) rfl (mcells_one _ hvk1 hvs1) ?_
              go_wp2
              refine bodyPost_ret (results_ct rfl _ _ w.heap.size 25 (mcells M vk vs) _ (by rfl) (row_set HR5.out) (size_mcells _ _ _)) rfl ?_
              have hbut : But w.heap.size W5 (W5.setRow w.heap.size (mcells M vk vs)) := But.row _ _
              refine ⟨below_row HK5.out (Nat.le_refl _) _, .inl ⟨vk, vs, HFn.out, ?_, ?_, ?_⟩⟩
              · rw [HF.out]; rfl
              · rw [HF.out]; exact own_but HL5.out HR5.out (by decide) hbut
              · rw [HF.out]; exact own_but HS5.out HR5.out (by decide) hbut
            · have hF : ¬ printM (foldQ s) = some s := by rw [HF.out, hP]; exact fun e => hts (Option.some.inj e)
              have HFn := Lib.hid hF
              have hbq : (t != s) = true := by simp [bne, hts]
              have hbq2 : (t == s) = false := by simp [hts]
              clear hF hP
              repeat (first | (with_reducible apply gateO (.store 25 (.tmp 2) (.tmp 60)); · rfl) | go_values | go_skip | go_guarded | go_step | go_upon | go_in | go_back | (simp only [Int.not_lt, Int.not_le] at *; go_simp))
              refine Lib.hid ?_
              rw [show (Value.agg #[.int .i64 0, .int .i64 0, .int .i64 0, .string ⟨#[]⟩, .int .i64 0, .int .i64 0, .string ⟨#[]⟩, .int .i64 0, .int .i64 0, .string ⟨#[]⟩, .int .i64 0, .string ⟨#[]⟩, .int .i64 0, .int .i64 0, .int .i64 0, .int .i64 0, .int .i64 0, .int .i64 0, .int .i64 0, .string ⟨#[]⟩, .string ⟨#[]⟩, .slice none 0 0, .int .i64 0, .string ⟨#[]⟩, .slice none 0 0]) = .agg zeroU from rfl]
              refine wp_store_row 25 (.tmp 2) (.tmp 60) rfl w.heap.size zeroU rfl rfl 25 zeroU HR5.out size_zeroU rfl (mcells_one _ rfl rfl) ?_
              rw [setRow_self _ _ _ _ _ HR5.out]
              go_wp2
              refine bodyPost_ret (results_ct rfl _ _ w.heap.size 25 zeroU _ (by rfl) HR5.out size_zeroU) rfl ?_
              exact ⟨HK5.out, .inr ⟨HFn.out, rfl⟩⟩
end Go.Proofs
