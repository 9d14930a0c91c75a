import Derived.Test.YtojlppofmjkmhaaDoorGHSetA
import Derived.Test.YtojlppofmjkmhaaDoorGHLast
import Derived.Deep.AppendLies
set_option linter.unusedVariables false
set_option linter.unusedSimpArgs false
set_option maxRecDepth 100000
namespace Go.Proofs
open Go.RowKit Go.Sort Go.Lib
open Go.VI
theorem own_ne {B : Nat} {e e' : TypeId} {sz n : Nat} {v : Value} {xs : List Value} {w : World} (h : w.ownsRow B e sz v n xs) {k : Nat} {cs : Array Value} {fz : Nat × Nat} (hk : w.heap[k]? = some (.cells cs e' fz)) (he : e' ≠ e) : some k ≠ v.ownBlock := fun hv => by
  rcases h.2 with ⟨h0, _⟩ | ⟨g, _, cur, h0, _, hg, _⟩
  · rw [h0] at hv; cases hv
  · rw [h0] at hv; injection hv with hv; have hv : k = g := hv; rw [← hv, hk] at hg; injection hg with hg; injection hg with _ hg _; exact he hg
theorem own_row {B : Nat} {e : TypeId} {sz n m cap g : Nat} {xs : List Value} {w : World} (h : w.ownsRow B e sz (.slice (some ⟨g, 0, none⟩) m cap) n xs) : ∃ cs, w.heap[g]? = some (.cells cs e (0, 0)) := by
  rcases h.2 with ⟨h0, _⟩ | ⟨g0, _, cur, h0, _, hg0, _⟩
  · cases h0
  · simp only [Value.slice.injEq, Option.some.injEq, Addr.mk.injEq] at h0
    rw [h0.1.1]; exact ⟨_, hg0⟩
theorem Keeps.grown {w W W' : World} {vl vs vl' vs' : Value} (h : Keeps w W vl vs vl' vs') {g' n cap : Nat} (hg : W.grownBy W' vl'.ownBlock) (hat : vl'.ownBlock = some g' ∨ g' = W.heap.size) : Keeps w W' vl vs (.slice (some ⟨g', 0, none⟩) n cap) vs' := by
  refine ⟨hg.os.trans h.os, hg.tape.trans h.tape, hg.output.trans h.output, Nat.le_trans h.size hg.size, fun k hk h1 h2 => ?_, fun g e => ?_, h.newS⟩
  · refine (hg.block k (Nat.lt_of_lt_of_le hk h.size) (fun e => ?_)).trans (h.block k hk h1 h2)
    rcases h.newL k e.symm with e | e
    · exact h1 e
    · omega
  · injection e with e
    have e : g' = g := e
    rcases hat with hat | hat
    · exact h.newL g (by rw [← e]; exact hat)
    · exact .inr (by rw [← e, hat]; exact h.size)
theorem Keeps.grownS {w W W' : World} {vl vs vl' vs' : Value} (h : Keeps w W vl vs vl' vs') {g' n cap : Nat} (hg : W.grownBy W' vs'.ownBlock) (hat : vs'.ownBlock = some g' ∨ g' = W.heap.size) : Keeps w W' vl vs vl' (.slice (some ⟨g', 0, none⟩) n cap) := by
  refine ⟨hg.os.trans h.os, hg.tape.trans h.tape, hg.output.trans h.output, Nat.le_trans h.size hg.size, fun k hk h1 h2 => ?_, h.newL, fun g e => ?_⟩
  · refine (hg.block k (Nat.lt_of_lt_of_le hk h.size) (fun e => ?_)).trans (h.block k hk h1 h2)
    rcases h.newS k e.symm with e | e
    · exact h2 e
    · omega
  · injection e with e
    have e : g' = g := e
    rcases hat with hat | hat
    · exact h.newS g (by rw [← e]; exact hat)
    · exact .inr (by rw [← e, hat]; exact h.size)
theorem Keeps.set {w W : World} {vl vs vl' vs' : Value} (h : Keeps w W vl vs vl' vs') {g o : Nat} (hg : w.heap.size ≤ g) (v : Value) : Keeps w (W.setCell ⟨g, o, none⟩ v) vl vs vl' vs' :=
  ⟨h.os, h.tape, h.output, by have := h.size; simpa using this, fun k hk h1 h2 => (heap_setCell_other W ⟨g, o, none⟩ k v (by show k ≠ g; omega)).trans (h.block k hk h1 h2), h.newL, h.newS⟩
theorem env_keeps {B : Nat} {w W : World} {vl vs vl' vs' : Value} {el es : TypeId} {n1 n2 z1 z2 : Nat} {x1 x2 : List Value} (h : Keeps w W vl vs vl' vs') (hl : w.ownsRow B el z1 vl n1 x1) (hs : w.ownsRow B es z2 vs n2 x2) (hB : 4 ≤ B) (hw : 4 ≤ w.heap.size) (henv : envW w) : envW W :=
  envW_stable w W (fun b hb => h.block b (by omega) (fun e => by have := (hl.lt b e).1; omega) (fun e => by have := (hs.lt b e).1; omega)) henv
structure SS (bm o g5 : Nat) (vk : Value) (a b : List UInt8) (W : World) : Prop where
  c21 : W.cell? ⟨bm, o, none⟩ = some vk
  z21 : W.frozen? ⟨bm, o, none⟩ = false
  c0 : W.cell? ⟨g5, 0, none⟩ = some (.string ⟨⟨a⟩⟩)
  c1 : W.cell? ⟨g5, 1, none⟩ = some (.string ⟨⟨b⟩⟩)
theorem SS.below {bm o g5 : Nat} {vk : Value} {a b : List UInt8} {W W' : World} (h : SS bm o g5 vk a b W) (hb : Below W.heap.size W W') : SS bm o g5 vk a b W' := by
  have h1 := World.block_lt_of_cell? W _ h.c21
  have h2 := World.block_lt_of_cell? W _ h.c0
  exact ⟨(hb.cell (p := ⟨bm, o, none⟩) h1).trans h.c21, (World.frozen?_of_block (a := ⟨bm, o, none⟩) (hb.block bm h1)).trans h.z21, (hb.cell (p := ⟨g5, 0, none⟩) h2).trans h.c0, (hb.cell (p := ⟨g5, 1, none⟩) h2).trans h.c1⟩
theorem SS.grown {bm o g5 : Nat} {vk : Value} {a b : List UInt8} {W W' : World} {row : Option Nat} (h : SS bm o g5 vk a b W) (hg : W.grownBy W' row) (n1 : some bm ≠ row) (n2 : some g5 ≠ row) : SS bm o g5 vk a b W' := by
  have h1 := World.block_lt_of_cell? W _ h.c21
  exact ⟨hg.cell h.c21 n1, (World.frozen?_of_block (a := ⟨bm, o, none⟩) (hg.block bm h1 n1)).trans h.z21, hg.cell h.c0 n2, hg.cell h.c1 n2⟩
theorem lRow_snoc (l : List S_api_Dest) (x : List UInt8) (n : Int) : lRow (l ++ [⟨x, n⟩]) = lRow l ++ [.string ⟨⟨x⟩⟩, .int .i64 n] := by simp [lRow]
theorem bRow_snoc (l : List S_api_Sub) (x : List UInt8) (n : Int) : bRow (l ++ [⟨n, x⟩]) = bRow l ++ [.int .i64 n, .string ⟨⟨x⟩⟩] := by simp [bRow]
theorem flat_len {α : Type} {f : List UInt8 → List α} (h : ∀ p, (f p).length ≤ 1) : ∀ (l : List (List UInt8)), (l.flatMap f).length ≤ l.length
  | [] => by simp
  | p :: r => by have h1 := h p; have h2 := flat_len h r; rw [List.flatMap_cons, List.length_append, List.length_cons]; omega
theorem destQ_len (p : List UInt8) : (destQ p).length ≤ 1 := by unfold destQ; split <;> simp
theorem subQ_len (p : List UInt8) : (subQ p).length ≤ 1 := by unfold subQ; split <;> simp
theorem destQ_no {p : List UInt8} (h : ¬ (splitC 58 p).length = 2) : destQ p = [] := by
  unfold destQ
  split
  · rename_i hh; rw [hh] at h; exact absurd rfl h
  · rfl
theorem subQ_no {p : List UInt8} (h : ¬ (splitC 58 p).length = 2) : subQ p = [] := by
  unfold subQ
  split
  · rename_i hh; rw [hh] at h; exact absurd rfl h
  · rfl
set_option maxHeartbeats 4000000 in
theorem Tryd.more_w (B : Nat) (m : XMsg) (vl vs : Value) (nm s : List UInt8) (w : World) (hs : s.length ≤ 1000000) (henv : envW w) (hw : 4 ≤ w.heap.size) (hB : B ≤ w.heap.size)
    (hl : w.ownsRow B 38 2 vl m.list.length (lRow m.list)) (hsb : w.ownsRow B 40 2 vs m.subs.length (bRow m.subs)) (hB4 : 4 ≤ B) (hll : m.list.length ≤ 1000000) (hsl : m.subs.length ≤ 1000000) :
    Calls Tryd.prog 55 #[.agg (mcells m vl vs), .string ⟨⟨nm⟩⟩, .string ⟨⟨s⟩⟩] w (SetPost B w vl vs (moreQ m nm s)) := by
  have hvl1 : vl.oneCell' = true := by obtain ⟨a, n, c, rfl⟩ := own_form hl; rfl
  have hvs1 : vs.oneCell' = true := by obtain ⟨a, n, c, rfl⟩ := own_form hsb; rfl
  have hone := mcells_one m hvl1 hvs1
  obtain ⟨U, hU⟩ : ∃ U, U = mcells m vl vs := ⟨_, rfl⟩
  have hUs : U.size = 25 := by rw [hU]; rfl
  rw [← hU] at hone ⊢
  have HU := Lib.hid hU
  clear hU
  have hinfo : (Tryd.prog.info? 38).map (fun i => (i.zero, i.size, i.bytes)) = some (some (.agg #[.string ByteArray.empty, .int .i64 0]), 2, 24) := by kernel_rfl
  obtain ⟨i0, hi, hz0, hz1, hz2⟩ := info_parts hinfo
  have HI := Lib.hid hi
  have HZ0 := Lib.hid hz0
  have HZ1 := Lib.hid hz1
  have HZ2 := Lib.hid hz2
  clear hinfo hi hz0 hz1 hz2
  have hinfo : (Tryd.prog.info? 40).map (fun i => (i.zero, i.size, i.bytes)) = some (some (.agg #[.int .i64 0, .string ByteArray.empty]), 2, 24) := by kernel_rfl
  obtain ⟨j0, hi, hz0, hz1, hz2⟩ := info_parts hinfo
  have JI := Lib.hid hi
  have JZ0 := Lib.hid hz0
  have JZ1 := Lib.hid hz1
  have JZ2 := Lib.hid hz2
  clear hinfo hi hz0 hz1 hz2
  go_enter Tryd.func55, Tryd.ntmps55
  go_wp2_with fail
  have hS0 := SetW.start U w
  change Calls Tryd.prog _ _ ((w.alloc (Obj.cells U 25)).alloc (Obj.cells zeroU 25)) _
  generalize (w.alloc (Obj.cells U 25)).alloc (Obj.cells zeroU 25) = W0 at hS0 ⊢
  have hz0 : w.heap.size + 1 < W0.heap.size := (Array.getElem?_eq_some_iff.1 hS0.res).1
  refine (Tryd.value_w s W0 hs (env_below henv hw hS0.below) (by omega)).mono ?_
  rintro e W1 ⟨rfl, hb1⟩
  have hS1 := hS0.next hb1
  have hz1 := hb1.size
  clear hb1 hS0
  go_wp2_with fail
  refine (Tryd.rbytes_w s W1 hs (env_below henv hw hS1.below) (by omega)).mono ?_
  rintro e W2 ⟨rfl, hb2⟩
  have HS := Lib.hid (hS1.next hb2)
  have hz2 := hb2.size
  have hz3 : w.heap.size + 1 < W2.heap.size := by omega
  have hc : ∀ o, o < 25 → W2.cell? ⟨w.heap.size, o, none⟩ = some (U.getD o undef) := fun o ho => by
    rw [Lib.cell_of_heap HS.out.box, Array.getD_eq_getD_getElem?, Array.getElem?_eq_getElem (by omega)]; rfl
  have hz : ∀ o, W2.frozen? ⟨w.heap.size, o, none⟩ = false := fun o => Lib.frozen_of_heap HS.out.box o
  have HL := Lib.hid hl
  have HB := Lib.hid hsb
  have HO := Lib.hid hone
  clear hb2 hS1 hz0 hz1 hz2 hl hsb hone
  repeat' (first | (with_reducible apply gateD (N := 102); · rfl) | go_values | go_skip | go_guarded | go_step | go_upon | go_back | (simp only [Int.not_lt, Int.not_le] at *; go_simp))
  iterate 9
    · rename_i K1 hk1 K hk
      refine Lib.hid ?_
      refine wp_load_row 25 (.tmp 3) rfl w.heap.size rfl 25 _ _ _ (heap_setCell_same W2 w.heap.size _ U _ _ HS.out.box) Tryd.underlying25 rfl (by rw [Array.size_setIfInBounds, hUs]; kernel_rfl) ?_
      refine hk _ _ ?_
      refine wpList_store_row rfl 25 (.tmp 6) (.tmp 102) rfl (w.heap.size + 1) _ rfl rfl 25 zeroU ((heap_setCell_other _ _ _ _ (by simp)).trans HS.out.res) (by rw [Array.size_setIfInBounds, hUs]; kernel_rfl) (by rw [Array.size_setIfInBounds, hUs]; rfl) (one_set HO.out rfl) ?_
      refine wpList_nil ?_
      refine hk1 _ _ ?_
      refine wp_ret ?_
      refine bodyPost_ret (results_cell_row rfl _ _ (w.heap.size + 1) 25 _ _ _ (by rfl) (row_set ((heap_setCell_other _ _ _ _ (by simp)).trans HS.out.res)) Tryd.underlying25 rfl (by rw [Array.size_setIfInBounds, hUs]; kernel_rfl)) rfl ?_
      have hq := eq_of_beq (a := nm) (by assumption)
      subst hq
      exact set_fin HS.out HL.out HB.out (m' := moreQ m _ s) (by rw [HU.out]; rfl) rfl rfl
  · have hp := Tryd.partsW ⟨⟨s⟩⟩ 44 W2 hs
    rw [show (((44 : UInt8).toNat : Nat) : Int) = 44 from rfl] at hp
    refine hp.mono ?_
    clear hp
    rintro e W3 ⟨g, cap, rfl, hb3, hown3⟩
    have hq := eq_of_beq (a := nm) (by assumption)
    subst hq
    have hpn : (splitC 44 s).length ≤ s.length + 1 := by rw [Go.VI.splitC_len]; have := List.count_le_length (a := 44) (l := s); omega
    obtain ⟨ps, hps⟩ : ∃ ps, ps = splitC 44 s := ⟨_, rfl⟩
    have hsm : ∀ x ∈ ps, x.length ≤ 1000000 := fun x hx => by rw [hps] at hx; have := Go.VI.splitC_small 44 s x hx; omega
    have hown3' : W3.ownsRow W2.heap.size 9 1 (.slice (some ⟨g, 0, none⟩) ps.length cap) ps.length (ps.map st) := by rw [hps]; exact hown3
    rw [← hps] at hpn ⊢
    have HPS := Lib.hid hps
    have hglt := hown3'.lt g rfl
    have hS3 := HS.out.next hb3
    have hl3 := own_below HL.out hS3.below
    have hs3 := own_below HB.out hS3.below
    have HO3 := Lib.hid hown3'
    have HBX := Lib.hid hS3.box
    have HRX := Lib.hid hS3.res
    have HK3 : Hid (Keeps w W3 vl vs vl vs) := Keeps.of hS3.below
    have HL3 := Lib.hid hl3
    have HS3 := Lib.hid hs3
    have hgb : w.heap.size + 1 < g := by omega
    clear hown3 hown3' hps hb3 hS3 hl3 hs3 hc hz
    dsimp only
    simp only [show (([108, 105, 115, 116] : List UInt8) == [105, 110, 116, 101, 114, 118, 97, 108]) = false from rfl, show (([108, 105, 115, 116] : List UInt8) == [102, 108, 97, 103, 115]) = false from rfl, show (([108, 105, 115, 116] : List UInt8) == [104, 111, 112, 115]) = false from rfl, show (([108, 105, 115, 116] : List UInt8) == [110, 111, 110, 99, 101]) = false from rfl, show (([108, 105, 115, 116] : List UInt8) == [99, 111, 115, 116]) = false from rfl, show (([108, 105, 115, 116] : List UInt8) == [97, 100, 100, 114]) = false from rfl, show (([108, 105, 115, 116] : List UInt8) == [111, 114, 105, 103]) = false from rfl, show (([108, 105, 115, 116] : List UInt8) == [116, 121, 112, 101]) = false from rfl, show (([108, 105, 115, 116] : List UInt8) == [100, 97, 116, 97]) = false from rfl, show (([108, 105, 115, 116] : List UInt8) == [108, 105, 115, 116]) = true from rfl]
    go_wp2_with fail
    go_loopw [10] (fun i wr => ∃ (k : Nat) (vk : Value), k ≤ ps.length ∧ i = .int .i64 k ∧ Hid (wr.heap[w.heap.size]? = some (.cells (mcells { m with list := m.list ++ (ps.take k).flatMap destQ } vk vs) 25 (0, 0))) ∧ Hid (wr.heap[w.heap.size + 1]? = some (.cells zeroU 25 (0, 0))) ∧
      Hid (wr.ownsRow B 38 2 vk (m.list ++ (ps.take k).flatMap destQ).length (lRow (m.list ++ (ps.take k).flatMap destQ))) ∧ Hid (wr.ownsRow B 40 2 vs m.subs.length (bRow m.subs)) ∧ Hid (wr.heap[g]? = W3.heap[g]?) ∧ Hid (Keeps w wr vl vs vk vs)) (fun i _ => ps.length - (RowKit.intOf i).toNat)
    case atStart =>
      refine ⟨0, vl, Nat.zero_le _, rfl, ?_, HRX, ?_, HS3, rfl, HK3⟩
      · rw [show ({ m with list := m.list ++ (ps.take 0).flatMap destQ } : XMsg) = m by cases m; simp, ← HU.out]; exact HBX
      · rw [show m.list ++ (ps.take 0).flatMap destQ = m.list by simp]; exact HL3
    case round =>
      obtain ⟨k, vk, hk, rfl, HBK, HRK, HLK, HSK, HGK, HKK⟩ := hrel
      rename World => W4
      by_cases hlt : k < ps.length
      · obtain ⟨pk, hpk⟩ : ∃ pk, ps[k]? = some pk := ⟨_, List.getElem?_eq_getElem hlt⟩
        have hpl := hsm pk (List.mem_of_getElem? hpk)
        have hcell : W4.cell? ⟨g, k, none⟩ = some (.string ⟨⟨pk⟩⟩) := by
          have h1 := HO3.out.cellAt k (by omega)
          rw [List.getElem?_map, hpk] at h1
          rw [← show W3.cell? ⟨g, k, none⟩ = W4.cell? ⟨g, k, none⟩ by simp only [World.cell?]; rw [HGK.out]]
          exact h1
        go_wp2_with fail
        have hp := Tryd.partsW ⟨⟨pk⟩⟩ 58 W4 hpl
        rw [show (((58 : UInt8).toNat : Nat) : Int) = 58 from rfl] at hp
        refine hp.mono ?_
        clear hp hcell
        rintro e W5 ⟨g5, cap5, rfl, hb5, hown5⟩
        have hbm4 : w.heap.size + 1 < W4.heap.size := (Array.getElem?_eq_some_iff.1 HRK.out).1
        have hg4 : g < W4.heap.size := by
          have h1 : W4.heap[g]? = some W3.heap[g] := HGK.out.trans (Array.getElem?_eq_getElem (by omega))
          exact (Array.getElem?_eq_some_iff.1 h1).1
        have hB5 := (hb5.block w.heap.size (by omega)).trans HBK.out
        have hR5 := (hb5.block (w.heap.size + 1) hbm4).trans HRK.out
        have hL5 := own_below HLK.out hb5
        have hS5 := own_below HSK.out hb5
        have hG5 := (hb5.block g hg4).trans HGK.out
        have hK5 := HKK.out.trans (Keeps.of hb5)
        have HB5 := Lib.hid hB5
        have HR5 := Lib.hid hR5
        have HL5 := Lib.hid hL5
        have HS5 := Lib.hid hS5
        have HG5 := Lib.hid hG5
        have HK5 := Lib.hid hK5
        have hz5 := hb5.size
        clear hB5 hR5 hL5 hS5 hG5 hK5 HBK HRK HLK HSK HGK HKK hb5
        dsimp only
        by_cases h2 : (splitC 58 pk).length = 2
        · obtain ⟨a, b, hab⟩ : ∃ a b, splitC 58 pk = [a, b] := by
            match hh : splitC 58 pk, h2 with
            | [a, b], _ => exact ⟨a, b, rfl⟩
          have hal : a.length ≤ 1000000 ∧ b.length ≤ 1000000 := by
            have h1 := Go.VI.splitC_small 58 pk a (by rw [hab]; simp)
            have h2 := Go.VI.splitC_small 58 pk b (by rw [hab]; simp)
            omega
          have hown5' : W5.ownsRow W4.heap.size 9 1 (.slice (some ⟨g5, 0, none⟩) 2 cap5) 2 [st a, st b] := by
            have h1 : W5.ownsRow W4.heap.size 9 1 (.slice (some ⟨g5, 0, none⟩) (splitC 58 pk).length cap5) (splitC 58 pk).length ((splitC 58 pk).map st) := hown5
            rw [hab] at h1; exact h1
          rw [h2]
          have HAB := Lib.hid hab
          have hg5 := hown5'.lt g5 rfl
          have hc0 : W5.cell? ⟨g5, 0, none⟩ = some (.string ⟨⟨a⟩⟩) := hown5'.cellAt 0 (by decide)
          have hc1 : W5.cell? ⟨g5, 1, none⟩ = some (.string ⟨⟨b⟩⟩) := hown5'.cellAt 1 (by decide)
          have hc21 : W5.cell? ⟨w.heap.size, 21, none⟩ = some vk := Lib.cell_of_heap HB5.out 21
          have hz21 : W5.frozen? ⟨w.heap.size, 21, none⟩ = false := Lib.frozen_of_heap HB5.out 21
          have hown5c := own_row hown5'
          clear hown5 hown5' hab h2
          go_wp2_with fail
          obtain ⟨cs5, hg5c⟩ := hown5c
          have henv5 : envW W5.drew := env_below (env_keeps HK5.out HL.out HB.out hB4 hw henv) (Nat.le_refl 4) (drew_below W5 4)
          obtain ⟨Lk, hLk⟩ : ∃ Lk, Lk = m.list ++ (ps.take k).flatMap destQ := ⟨_, rfl⟩
          have hlen : Lk.length ≤ 2000001 := by
            have h1 := flat_len destQ_len (ps.take k)
            have h2 : (ps.take k).length ≤ k := List.length_take_le _ _
            rw [hLk, List.length_append]; omega
          rw [← hLk] at HL5 HB5
          have HLk := Lib.hid hLk
          clear hLk
          have hBz : B ≤ W5.heap.size := by omega
          have hSS : SS w.heap.size 21 g5 vk a b W5.drew := ⟨hc21, hz21, hc0, hc1⟩
          refine wpBut.start (L := 14) (S := SS w.heap.size 21 g5 vk a b) (by kernel_rfl) ?_
          refine wpBut.take (i := 0) (v := ?_) _ (by simp only [List.getElem?_toArray, List.getElem?_cons_succ, List.getElem?_cons_zero]; exact rfl) (by kernel_rfl) (by simp only [List.getElem?_toArray, List.getElem?_cons_succ, List.getElem?_cons_zero]; exact rfl) (by kernel_rfl) (by kernel_rfl) (by kernel_rfl) (by decide) ?q0 ?y0 (by assumption) ?_
          case q0 => exact fun _ _ _ h => h
          case y0 => exact Or.inl ⟨rfl, fun w' hSw => by obtain ⟨q1, q2, q3, q4⟩ := hSw; go_simp; (try with_reducible rfl)⟩
          (try simp only [Act.put, List.setIfInBounds_toArray, List.set_cons_zero, List.set_cons_succ])
          refine wpBut.take (i := 1) (v := ?_) _ (by simp only [List.getElem?_toArray, List.getElem?_cons_succ, List.getElem?_cons_zero]; exact rfl) (by kernel_rfl) (by simp only [List.getElem?_toArray, List.getElem?_cons_succ, List.getElem?_cons_zero]; exact rfl) (by kernel_rfl) (by kernel_rfl) (by kernel_rfl) (by decide) ?q1 ?y1 (by assumption) ?_
          case q1 => exact fun _ _ _ h => h
          case y1 => exact Or.inl ⟨rfl, fun w' hSw => by obtain ⟨q1, q2, q3, q4⟩ := hSw; go_simp; (try with_reducible rfl)⟩
          (try simp only [Act.put, List.setIfInBounds_toArray, List.set_cons_zero, List.set_cons_succ])
          refine wpBut.take (i := 2) (v := ?_) _ (by simp only [List.getElem?_toArray, List.getElem?_cons_succ, List.getElem?_cons_zero]; exact rfl) (by kernel_rfl) (by simp only [List.getElem?_toArray, List.getElem?_cons_succ, List.getElem?_cons_zero]; exact rfl) (by kernel_rfl) (by kernel_rfl) (by kernel_rfl) (by decide) ?q2 ?y2 (by assumption) ?_
          case q2 => exact fun _ _ _ h => h
          case y2 => exact Or.inl ⟨rfl, fun w' hSw => by obtain ⟨q1, q2, q3, q4⟩ := hSw; go_simp; (try with_reducible rfl)⟩
          (try simp only [Act.put, List.setIfInBounds_toArray, List.set_cons_zero, List.set_cons_succ])
          refine wpBut.take (i := 3) (v := ?_) _ (by simp only [List.getElem?_toArray, List.getElem?_cons_succ, List.getElem?_cons_zero]; exact rfl) (by kernel_rfl) (by simp only [List.getElem?_toArray, List.getElem?_cons_succ, List.getElem?_cons_zero]; exact rfl) (by kernel_rfl) (by kernel_rfl) (by kernel_rfl) (by decide) ?q3 ?y3 (by assumption) ?_
          case q3 => exact fun _ _ _ h => h
          case y3 => exact Or.inl ⟨rfl, fun w' hSw => by obtain ⟨q1, q2, q3, q4⟩ := hSw; go_simp; (try with_reducible rfl)⟩
          (try simp only [Act.put, List.setIfInBounds_toArray, List.set_cons_zero, List.set_cons_succ])
          refine wpBut.take (i := 4) (v := ?_) _ (by simp only [List.getElem?_toArray, List.getElem?_cons_succ, List.getElem?_cons_zero]; exact rfl) (by kernel_rfl) (by simp only [List.getElem?_toArray, List.getElem?_cons_succ, List.getElem?_cons_zero]; exact rfl) (by kernel_rfl) (by kernel_rfl) (by kernel_rfl) (by decide) ?q4 ?y4 (by assumption) ?_
          case q4 => exact fun _ _ _ h => h
          case y4 => exact Or.inl ⟨rfl, fun w' hSw => by obtain ⟨q1, q2, q3, q4⟩ := hSw; go_simp; (try with_reducible rfl)⟩
          (try simp only [Act.put, List.setIfInBounds_toArray, List.set_cons_zero, List.set_cons_succ])
          refine wpBut.take (i := 6) (v := ?_) _ (by simp only [List.getElem?_toArray, List.getElem?_cons_succ, List.getElem?_cons_zero]; exact rfl) (by kernel_rfl) (by simp only [List.getElem?_toArray, List.getElem?_cons_succ, List.getElem?_cons_zero]; exact rfl) (by kernel_rfl) (by kernel_rfl) (by kernel_rfl) (by decide) ?q6 ?y6 (by assumption) ?_
          case q6 => exact fun _ _ _ h => h
          case y6 => exact Or.inl ⟨rfl, fun w' hSw => by obtain ⟨q1, q2, q3, q4⟩ := hSw; go_simp; (try with_reducible rfl)⟩
          (try simp only [Act.put, List.setIfInBounds_toArray, List.set_cons_zero, List.set_cons_succ])
          refine wpBut.take (i := 7) (v := ?_) _ (by simp only [List.getElem?_toArray, List.getElem?_cons_succ, List.getElem?_cons_zero]; exact rfl) (by kernel_rfl) (by simp only [List.getElem?_toArray, List.getElem?_cons_succ, List.getElem?_cons_zero]; exact rfl) (by kernel_rfl) (by kernel_rfl) (by kernel_rfl) (by decide) ?q7 ?y7 (by assumption) ?_
          case q7 => exact fun _ _ _ h => h
          case y7 => exact Or.inl ⟨rfl, fun w' hSw => by obtain ⟨q1, q2, q3, q4⟩ := hSw; go_simp; (try with_reducible rfl)⟩
          (try simp only [Act.put, List.setIfInBounds_toArray, List.set_cons_zero, List.set_cons_succ])
          refine wpBut.take (i := 8) (v := ?_) _ (by simp only [List.getElem?_toArray, List.getElem?_cons_succ, List.getElem?_cons_zero]; exact rfl) (by kernel_rfl) (by simp only [List.getElem?_toArray, List.getElem?_cons_succ, List.getElem?_cons_zero]; exact rfl) (by kernel_rfl) (by kernel_rfl) (by kernel_rfl) (by decide) ?q8 ?y8 (by assumption) ?_
          case q8 => exact fun _ _ _ h => h
          case y8 => exact Or.inl ⟨rfl, fun w' hSw => by obtain ⟨q1, q2, q3, q4⟩ := hSw; go_simp; (try with_reducible rfl)⟩
          (try simp only [Act.put, List.setIfInBounds_toArray, List.set_cons_zero, List.set_cons_succ])
          refine wpBut.one (i := 5) (by kernel_rfl) (by simp only [List.getElem?_toArray, List.getElem?_cons_succ, List.getElem?_cons_zero]; exact rfl) (fun K hK => ?_)
          go_simp
          refine (Tryd.rbytes_w a _ hal.1 henv5 (by have := hz5; show 4 ≤ W5.heap.size; omega)).mono ?_
          rintro e W6 ⟨rfl, hb6⟩
          have hS6 := hSS.below hb6
          have hz6 : W5.heap.size ≤ W6.heap.size := hb6.size
          dsimp only
          refine hK.out _ _ (fun _ => hS6) ?_
          clear hK K
          (try simp only [Act.put, List.setIfInBounds_toArray, List.set_cons_zero, List.set_cons_succ])
          refine wpBut.one (i := 9) (by kernel_rfl) (by simp only [List.getElem?_toArray, List.getElem?_cons_succ, List.getElem?_cons_zero]; exact rfl) (fun K hK => ?_)
          go_simp
          refine (Tryd.value_w b _ hal.2 (env_below henv5 (B := W5.drew.heap.size) (by show 4 ≤ W5.heap.size; omega) hb6) (by omega)).mono ?_
          rintro e W7 ⟨rfl, hb7⟩
          have hS7 := hS6.below hb7
          have hz7 := hb7.size
          dsimp only
          refine hK.out _ _ (fun _ => hS7) ?_
          clear hK K
          (try simp only [Act.put, List.setIfInBounds_toArray, List.set_cons_zero, List.set_cons_succ])
          refine wpBut.take (i := 10) (v := ?_) _ (by simp only [List.getElem?_toArray, List.getElem?_cons_succ, List.getElem?_cons_zero]; exact rfl) (by kernel_rfl) (by simp only [List.getElem?_toArray, List.getElem?_cons_succ, List.getElem?_cons_zero]; exact rfl) (by kernel_rfl) (by kernel_rfl) (by kernel_rfl) (by decide) ?q10 ?y10 (by assumption) ?_
          case q10 => exact fun _ _ _ h => h
          case y10 => exact Or.inl ⟨rfl, fun w' hSw => by obtain ⟨q1, q2, q3, q4⟩ := hSw; go_simp; (try with_reducible rfl)⟩
          (try simp only [Act.put, List.setIfInBounds_toArray, List.set_cons_zero, List.set_cons_succ])
          refine wpBut.one (i := 11) (by kernel_rfl) (by simp only [List.getElem?_toArray, List.getElem?_cons_succ, List.getElem?_cons_zero]; exact rfl) (fun K hK => ?_)
          have hb8 : Below W7.heap.size W7 (W7.alloc (.cells #[.string ⟨⟨bytQ a⟩⟩, .int .i64 (valQ b)] 38)) := (Below.refl _ _).alloc (Nat.le_refl _) _
          have hS8 := hS7.below hb8
          have hbA : Below W5.heap.size W5 (W7.alloc (.cells #[.string ⟨⟨bytQ a⟩⟩, .int .i64 (valQ b)] 38)) := (((drew_below W5 _).trans hb6).trans (hb7.mono hz6)).trans (hb8.mono (Nat.le_trans hz6 hz7))
          have hOv := own_below HL5.out hbA
          have hbmV := (hbA.block w.heap.size (by omega)).trans HB5.out
          have hg5V := (hbA.block g5 (by omega)).trans hg5c
          go_simp
          refine hK.out _ _ (fun _ => hS8) ?_
          clear hK K
          (try simp only [Act.put, List.setIfInBounds_toArray, List.set_cons_zero, List.set_cons_succ])
          refine wpBut.one (i := 12) (by kernel_rfl) (by simp only [List.getElem?_toArray, List.getElem?_cons_succ, List.getElem?_cons_zero]; exact rfl) (fun K hK => ?_)
          refine step_append_lies _ (by rfl) (.tmp 75) (.tmp 85) 22 (by rfl) B 38 i0 (.agg #[.string ByteArray.empty, .int .i64 0]) 2 24 Tryd.underlying22 HI.out HZ0.out HZ1.out HZ2.out rfl (by decide) vk _ _ (by rfl) hOv ⟨W7.heap.size, 0, none⟩ 1 1 [.string ⟨⟨bytQ a⟩⟩, .int .i64 (valQ b)] (by rfl) rfl (two_cell _ _ _ _) (by simp [Value.oneCell']) (by decide) (by unfold maxLen; omega) (by omega) (Nat.le_trans hBz hbA.size) _ rfl ?_
          intro g' cap' W8 hown8 hgrow hat hlt'
          have hS9 := hS8.grown hgrow (own_ne hOv hbmV (by decide)) (own_ne hOv hg5V (by decide))
          refine hK.out _ _ (fun _ => hS9) ?_
          clear hK K
          (try simp only [Act.put, List.setIfInBounds_toArray, List.set_cons_zero, List.set_cons_succ])
          refine wpBut.take (i := 13) (v := ?_) _ (by simp only [List.getElem?_toArray, List.getElem?_cons_succ, List.getElem?_cons_zero]; exact rfl) (by kernel_rfl) (by simp only [List.getElem?_toArray, List.getElem?_cons_succ, List.getElem?_cons_zero]; exact rfl) (by kernel_rfl) (by kernel_rfl) (by kernel_rfl) (by decide) ?q13 ?y13 (by assumption) ?_
          case q13 => exact fun _ _ _ h => h
          case y13 => exact Or.inl ⟨rfl, fun w' hSw => by obtain ⟨q1, q2, q3, q4⟩ := hSw; go_simp; (try with_reducible rfl)⟩
          (try simp only [Act.put, List.setIfInBounds_toArray, List.set_cons_zero, List.set_cons_succ])
          refine wpBut.one (i := 14) (by kernel_rfl) (by simp only [List.getElem?_toArray, List.getElem?_cons_succ, List.getElem?_cons_zero]; exact rfl) (fun K hK => ?_)
          obtain ⟨q1, q2, q3, q4⟩ := hS9
          go_simp
          refine hK.out _ _ (fun h => absurd rfl h) ?_
          clear hK K
          (try simp only [Act.put, List.setIfInBounds_toArray, List.set_cons_zero, List.set_cons_succ])
          refine wpBut.done (by kernel_rfl) ?_ _
          have hRV := (hbA.block (w.heap.size + 1) (by omega)).trans HR5.out
          obtain ⟨csg, hcg⟩ := own_row HO3.out
          have hGV : (W7.alloc (.cells #[.string ⟨⟨bytQ a⟩⟩, .int .i64 (valQ b)] 38)).heap[g]? = some (.cells csg 9 (0, 0)) := ((hbA.block g (by omega)).trans HG5.out).trans hcg
          have hsV := own_below HS5.out hbA
          have hk8 := (HK5.out.trans (Keeps.of hbA)).grown (n := Lk.length + 1) (cap := cap') hgrow hat
          have hb8' := (hgrow.block _ (Array.getElem?_eq_some_iff.1 hbmV).1 (own_ne hOv hbmV (by decide))).trans hbmV
          have hr8 := (hgrow.block _ (Array.getElem?_eq_some_iff.1 hRV).1 (own_ne hOv hRV (by decide))).trans hRV
          have hg8 := (hgrow.block _ (Array.getElem?_eq_some_iff.1 hGV).1 (own_ne hOv hGV (by decide))).trans hGV
          have hs8 := hsV.kept hgrow (by
            rcases hsV.2 with ⟨h0, _⟩ | ⟨g0, _, cur, h0, _, hg0, _⟩
            · left; rw [h0]; rfl
            · right; rw [h0]; exact own_ne hOv hg0 (by decide))
          have hLn : m.list ++ (ps.take (k + 1)).flatMap destQ = Lk ++ [⟨bytQ a, valQ b⟩] := by
            have : destQ pk = [⟨bytQ a, valQ b⟩] := by unfold destQ; rw [HAB.out]
            rw [List.take_succ_eq_append_getElem hlt, List.flatMap_append, ← List.append_assoc, ← HLk.out, List.flatMap_cons, List.flatMap_nil, List.append_nil, (List.getElem?_eq_some_iff.1 hpk).2, this]
          have hb9 := heap_setCell_same W8 w.heap.size 21 _ _ (.slice (some ⟨g', 0, none⟩) (Lk.length + 1) cap') hb8'
          have hr9 := (heap_setCell_other W8 ⟨w.heap.size, 21, none⟩ (w.heap.size + 1) (.slice (some ⟨g', 0, none⟩) (Lk.length + 1) cap') (by show w.heap.size + 1 ≠ w.heap.size; omega)).trans hr8
          have hg9 := (heap_setCell_other W8 ⟨w.heap.size, 21, none⟩ g (.slice (some ⟨g', 0, none⟩) (Lk.length + 1) cap') (by show g ≠ w.heap.size; omega)).trans (hg8.trans hcg.symm)
          have hbut : But w.heap.size W8 (W8.setCell ⟨w.heap.size, 21, none⟩ (.slice (some ⟨g', 0, none⟩) (Lk.length + 1) cap')) := But.set _
          have HL9 := Lib.hid (own_but hown8 hb8' (by decide) hbut)
          have HS9 := Lib.hid (own_but hs8 hb8' (by decide) hbut)
          have HB9 := Lib.hid hb9
          have HR9 := Lib.hid hr9
          have HG9 := Lib.hid hg9
          have HK9 := Lib.hid (hk8.set (o := 21) (Nat.le_refl _) (.slice (some ⟨g', 0, none⟩) (Lk.length + 1) cap'))
          have HLN := Lib.hid hLn
          clear hb9 hr9 hg9 hbut hk8 hb8' hr8 hg8 hs8 hLn hown8 hgrow hat hlt' hS8 hS7 hS6 hSS hbA hb8 hb7 hb6 hOv hbmV hg5V hRV hGV hsV q1 q2 q3 q4
          generalize W8.setCell ⟨w.heap.size, 21, none⟩ (.slice (some ⟨g', 0, none⟩) (Lk.length + 1) cap') = W9 at HL9 HS9 HB9 HR9 HG9 HK9 ⊢
          go_wp2_with fail
          go_roundw
          case rel =>
            refine ⟨k + 1, .slice (some ⟨g', 0, none⟩) (Lk.length + 1) cap', by omega, by go_num, HB9, HR9, ?_, HS9, HG9, HK9⟩
            rw [HLN.out, lRow_snoc, List.length_append]
            exact HL9
          case measure => simp [RowKit.intOf]; omega
        · have hb2 : (((splitC 58 pk).length : Int) == 2) = false := by rw [beq_eq_false_iff_ne]; omega
          have hb2' : ¬ ((splitC 58 pk).length : Int) = 2 := by omega
          have HD := Lib.hid (destQ_no h2)
          clear h2
          go_wp2_with fail
          go_roundw
          case rel =>
            have hLn : m.list ++ (ps.take (k + 1)).flatMap destQ = m.list ++ (ps.take k).flatMap destQ := by
              rw [List.take_succ_eq_append_getElem hlt, List.flatMap_append, List.flatMap_cons, List.flatMap_nil, List.append_nil, (List.getElem?_eq_some_iff.1 hpk).2, HD.out, List.append_nil]
            refine ⟨k + 1, vk, by omega, by go_num, HB5, HR5, ?_, HS5, HG5, HK5⟩
            rw [hLn]; exact HL5
          case measure => simp [RowKit.intOf]; omega
      · obtain rfl : k = ps.length := by omega
        have htk : ps.take ps.length = ps := List.take_of_length_le (Nat.le_refl _)
        have hvk1 : vk.oneCell' = true := by obtain ⟨a, n, c, rfl⟩ := own_form HLK.out; rfl
        have hB4' := HBK.out
        have hL4 := HLK.out
        rw [htk] at hB4' hL4
        have HB' := Lib.hid hB4'
        have HL' := Lib.hid hL4
        clear hB4' hL4 HBK HLK
        repeat' (first | (with_reducible apply gateD (N := 102); · rfl) | go_values | go_skip | go_guarded | go_step | go_upon | go_back | (simp only [Int.not_lt, Int.not_le] at *; go_simp))
        rename_i K1 hk1 K hk
        refine Lib.hid ?_
        refine wp_load_row 25 (.tmp 3) rfl w.heap.size rfl 25 _ _ _ HB'.out Tryd.underlying25 rfl (size_mcells _ _ _) ?_
        refine hk _ _ ?_
        refine wpList_store_row rfl 25 (.tmp 6) (.tmp 102) rfl (w.heap.size + 1) _ rfl rfl 25 zeroU HRK.out (size_mcells _ _ _) rfl (mcells_one _ hvk1 hvs1) ?_
        refine wpList_nil ?_
        refine hk1 _ _ ?_
        refine wp_ret ?_
        refine bodyPost_ret (results_cell_row rfl _ _ (w.heap.size + 1) 25 _ _ _ (by rfl) (row_set HRK.out) Tryd.underlying25 rfl (size_mcells _ _ _)) rfl ?_
        rw [show moreQ m [108, 105, 115, 116] s = { m with list := m.list ++ ps.flatMap destQ } by rw [HPS.out]; rfl]
        exact ⟨vk, vs, rfl, own_but HL'.out HRK.out (by decide) (But.row _ _), own_but HSK.out HRK.out (by decide) (But.row _ _), HKK.out.row (by omega) _⟩
  · exfalso
    have h1 : (nm == [108, 105, 115, 116]) = true := by assumption
    have h2 : (nm == [108, 105, 115, 116]) = false := by assumption
    rw [h1] at h2
    cases h2
  · have hp := Tryd.partsW ⟨⟨s⟩⟩ 44 W2 hs
    rw [show (((44 : UInt8).toNat : Nat) : Int) = 44 from rfl] at hp
    refine hp.mono ?_
    clear hp
    rintro e W3 ⟨g, cap, rfl, hb3, hown3⟩
    have hq := eq_of_beq (a := nm) (by assumption)
    subst hq
    have hpn : (splitC 44 s).length ≤ s.length + 1 := by rw [Go.VI.splitC_len]; have := List.count_le_length (a := 44) (l := s); omega
    obtain ⟨ps, hps⟩ : ∃ ps, ps = splitC 44 s := ⟨_, rfl⟩
    have hsm : ∀ x ∈ ps, x.length ≤ 1000000 := fun x hx => by rw [hps] at hx; have := Go.VI.splitC_small 44 s x hx; omega
    have hown3' : W3.ownsRow W2.heap.size 9 1 (.slice (some ⟨g, 0, none⟩) ps.length cap) ps.length (ps.map st) := by rw [hps]; exact hown3
    rw [← hps] at hpn ⊢
    have HPS := Lib.hid hps
    have hglt := hown3'.lt g rfl
    have hS3 := HS.out.next hb3
    have hl3 := own_below HB.out hS3.below
    have hs3 := own_below HL.out hS3.below
    have HO3 := Lib.hid hown3'
    have HBX := Lib.hid hS3.box
    have HRX := Lib.hid hS3.res
    have HK3 : Hid (Keeps w W3 vl vs vl vs) := Keeps.of hS3.below
    have HL3 := Lib.hid hl3
    have HS3 := Lib.hid hs3
    have hgb : w.heap.size + 1 < g := by omega
    clear hown3 hown3' hps hb3 hS3 hl3 hs3 hc hz
    dsimp only
    simp only [show (([115, 117, 98, 115] : List UInt8) == [105, 110, 116, 101, 114, 118, 97, 108]) = false from rfl, show (([115, 117, 98, 115] : List UInt8) == [102, 108, 97, 103, 115]) = false from rfl, show (([115, 117, 98, 115] : List UInt8) == [104, 111, 112, 115]) = false from rfl, show (([115, 117, 98, 115] : List UInt8) == [110, 111, 110, 99, 101]) = false from rfl, show (([115, 117, 98, 115] : List UInt8) == [99, 111, 115, 116]) = false from rfl, show (([115, 117, 98, 115] : List UInt8) == [97, 100, 100, 114]) = false from rfl, show (([115, 117, 98, 115] : List UInt8) == [111, 114, 105, 103]) = false from rfl, show (([115, 117, 98, 115] : List UInt8) == [116, 121, 112, 101]) = false from rfl, show (([115, 117, 98, 115] : List UInt8) == [100, 97, 116, 97]) = false from rfl, show (([115, 117, 98, 115] : List UInt8) == [108, 105, 115, 116]) = false from rfl, show (([115, 117, 98, 115] : List UInt8) == [115, 117, 98, 115]) = true from rfl]
    go_wp2_with fail
    go_loopw [10] (fun i wr => ∃ (k : Nat) (vk : Value), k ≤ ps.length ∧ i = .int .i64 k ∧ Hid (wr.heap[w.heap.size]? = some (.cells (mcells { m with subs := m.subs ++ (ps.take k).flatMap subQ } vl vk) 25 (0, 0))) ∧ Hid (wr.heap[w.heap.size + 1]? = some (.cells zeroU 25 (0, 0))) ∧
      Hid (wr.ownsRow B 40 2 vk (m.subs ++ (ps.take k).flatMap subQ).length (bRow (m.subs ++ (ps.take k).flatMap subQ))) ∧ Hid (wr.ownsRow B 38 2 vl m.list.length (lRow m.list)) ∧ Hid (wr.heap[g]? = W3.heap[g]?) ∧ Hid (Keeps w wr vl vs vl vk)) (fun i _ => ps.length - (RowKit.intOf i).toNat)
    case atStart =>
      refine ⟨0, vs, Nat.zero_le _, rfl, ?_, HRX, ?_, HS3, rfl, HK3⟩
      · rw [show ({ m with subs := m.subs ++ (ps.take 0).flatMap subQ } : XMsg) = m by cases m; simp, ← HU.out]; exact HBX
      · rw [show m.subs ++ (ps.take 0).flatMap subQ = m.subs by simp]; exact HL3
    case round =>
      obtain ⟨k, vk, hk, rfl, HBK, HRK, HLK, HSK, HGK, HKK⟩ := hrel
      rename World => W4
      by_cases hlt : k < ps.length
      · obtain ⟨pk, hpk⟩ : ∃ pk, ps[k]? = some pk := ⟨_, List.getElem?_eq_getElem hlt⟩
        have hpl := hsm pk (List.mem_of_getElem? hpk)
        have hcell : W4.cell? ⟨g, k, none⟩ = some (.string ⟨⟨pk⟩⟩) := by
          have h1 := HO3.out.cellAt k (by omega)
          rw [List.getElem?_map, hpk] at h1
          rw [← show W3.cell? ⟨g, k, none⟩ = W4.cell? ⟨g, k, none⟩ by simp only [World.cell?]; rw [HGK.out]]
          exact h1
        go_wp2_with fail
        have hp := Tryd.partsW ⟨⟨pk⟩⟩ 58 W4 hpl
        rw [show (((58 : UInt8).toNat : Nat) : Int) = 58 from rfl] at hp
        refine hp.mono ?_
        clear hp hcell
        rintro e W5 ⟨g5, cap5, rfl, hb5, hown5⟩
        have hbm4 : w.heap.size + 1 < W4.heap.size := (Array.getElem?_eq_some_iff.1 HRK.out).1
        have hg4 : g < W4.heap.size := by
          have h1 : W4.heap[g]? = some W3.heap[g] := HGK.out.trans (Array.getElem?_eq_getElem (by omega))
          exact (Array.getElem?_eq_some_iff.1 h1).1
        have hB5 := (hb5.block w.heap.size (by omega)).trans HBK.out
        have hR5 := (hb5.block (w.heap.size + 1) hbm4).trans HRK.out
        have hL5 := own_below HLK.out hb5
        have hS5 := own_below HSK.out hb5
        have hG5 := (hb5.block g hg4).trans HGK.out
        have hK5 := HKK.out.trans (Keeps.of hb5)
        have HB5 := Lib.hid hB5
        have HR5 := Lib.hid hR5
        have HL5 := Lib.hid hL5
        have HS5 := Lib.hid hS5
        have HG5 := Lib.hid hG5
        have HK5 := Lib.hid hK5
        have hz5 := hb5.size
        clear hB5 hR5 hL5 hS5 hG5 hK5 HBK HRK HLK HSK HGK HKK hb5
        dsimp only
        by_cases h2 : (splitC 58 pk).length = 2
        · obtain ⟨a, b, hab⟩ : ∃ a b, splitC 58 pk = [a, b] := by
            match hh : splitC 58 pk, h2 with
            | [a, b], _ => exact ⟨a, b, rfl⟩
          have hal : a.length ≤ 1000000 ∧ b.length ≤ 1000000 := by
            have h1 := Go.VI.splitC_small 58 pk a (by rw [hab]; simp)
            have h2 := Go.VI.splitC_small 58 pk b (by rw [hab]; simp)
            omega
          have hown5' : W5.ownsRow W4.heap.size 9 1 (.slice (some ⟨g5, 0, none⟩) 2 cap5) 2 [st a, st b] := by
            have h1 : W5.ownsRow W4.heap.size 9 1 (.slice (some ⟨g5, 0, none⟩) (splitC 58 pk).length cap5) (splitC 58 pk).length ((splitC 58 pk).map st) := hown5
            rw [hab] at h1; exact h1
          rw [h2]
          have HAB := Lib.hid hab
          have hg5 := hown5'.lt g5 rfl
          have hc0 : W5.cell? ⟨g5, 0, none⟩ = some (.string ⟨⟨a⟩⟩) := hown5'.cellAt 0 (by decide)
          have hc1 : W5.cell? ⟨g5, 1, none⟩ = some (.string ⟨⟨b⟩⟩) := hown5'.cellAt 1 (by decide)
          have hc21 : W5.cell? ⟨w.heap.size, 24, none⟩ = some vk := Lib.cell_of_heap HB5.out 24
          have hz21 : W5.frozen? ⟨w.heap.size, 24, none⟩ = false := Lib.frozen_of_heap HB5.out 24
          have hown5c := own_row hown5'
          clear hown5 hown5' hab h2
          go_wp2_with fail
          obtain ⟨cs5, hg5c⟩ := hown5c
          have henv5 : envW W5.drew := env_below (env_keeps HK5.out HL.out HB.out hB4 hw henv) (Nat.le_refl 4) (drew_below W5 4)
          obtain ⟨Lk, hLk⟩ : ∃ Lk, Lk = m.subs ++ (ps.take k).flatMap subQ := ⟨_, rfl⟩
          have hlen : Lk.length ≤ 2000001 := by
            have h1 := flat_len subQ_len (ps.take k)
            have h2 : (ps.take k).length ≤ k := List.length_take_le _ _
            rw [hLk, List.length_append]; omega
          rw [← hLk] at HL5 HB5
          have HLk := Lib.hid hLk
          clear hLk
          have hBz : B ≤ W5.heap.size := by omega
          have hSS : SS w.heap.size 24 g5 vk a b W5.drew := ⟨hc21, hz21, hc0, hc1⟩
          refine wpBut.start (L := 14) (S := SS w.heap.size 24 g5 vk a b) (by kernel_rfl) ?_
          refine wpBut.take (i := 0) (v := ?_) _ (by simp only [List.getElem?_toArray, List.getElem?_cons_succ, List.getElem?_cons_zero]; exact rfl) (by kernel_rfl) (by simp only [List.getElem?_toArray, List.getElem?_cons_succ, List.getElem?_cons_zero]; exact rfl) (by kernel_rfl) (by kernel_rfl) (by kernel_rfl) (by decide) ?q0 ?y0 (by assumption) ?_
          case q0 => exact fun _ _ _ h => h
          case y0 => exact Or.inl ⟨rfl, fun w' hSw => by obtain ⟨q1, q2, q3, q4⟩ := hSw; go_simp; (try with_reducible rfl)⟩
          (try simp only [Act.put, List.setIfInBounds_toArray, List.set_cons_zero, List.set_cons_succ])
          refine wpBut.take (i := 1) (v := ?_) _ (by simp only [List.getElem?_toArray, List.getElem?_cons_succ, List.getElem?_cons_zero]; exact rfl) (by kernel_rfl) (by simp only [List.getElem?_toArray, List.getElem?_cons_succ, List.getElem?_cons_zero]; exact rfl) (by kernel_rfl) (by kernel_rfl) (by kernel_rfl) (by decide) ?q1 ?y1 (by assumption) ?_
          case q1 => exact fun _ _ _ h => h
          case y1 => exact Or.inl ⟨rfl, fun w' hSw => by obtain ⟨q1, q2, q3, q4⟩ := hSw; go_simp; (try with_reducible rfl)⟩
          (try simp only [Act.put, List.setIfInBounds_toArray, List.set_cons_zero, List.set_cons_succ])
          refine wpBut.take (i := 2) (v := ?_) _ (by simp only [List.getElem?_toArray, List.getElem?_cons_succ, List.getElem?_cons_zero]; exact rfl) (by kernel_rfl) (by simp only [List.getElem?_toArray, List.getElem?_cons_succ, List.getElem?_cons_zero]; exact rfl) (by kernel_rfl) (by kernel_rfl) (by kernel_rfl) (by decide) ?q2 ?y2 (by assumption) ?_
          case q2 => exact fun _ _ _ h => h
          case y2 => exact Or.inl ⟨rfl, fun w' hSw => by obtain ⟨q1, q2, q3, q4⟩ := hSw; go_simp; (try with_reducible rfl)⟩
          (try simp only [Act.put, List.setIfInBounds_toArray, List.set_cons_zero, List.set_cons_succ])
          refine wpBut.take (i := 3) (v := ?_) _ (by simp only [List.getElem?_toArray, List.getElem?_cons_succ, List.getElem?_cons_zero]; exact rfl) (by kernel_rfl) (by simp only [List.getElem?_toArray, List.getElem?_cons_succ, List.getElem?_cons_zero]; exact rfl) (by kernel_rfl) (by kernel_rfl) (by kernel_rfl) (by decide) ?q3 ?y3 (by assumption) ?_
          case q3 => exact fun _ _ _ h => h
          case y3 => exact Or.inl ⟨rfl, fun w' hSw => by obtain ⟨q1, q2, q3, q4⟩ := hSw; go_simp; (try with_reducible rfl)⟩
          (try simp only [Act.put, List.setIfInBounds_toArray, List.set_cons_zero, List.set_cons_succ])
          refine wpBut.take (i := 4) (v := ?_) _ (by simp only [List.getElem?_toArray, List.getElem?_cons_succ, List.getElem?_cons_zero]; exact rfl) (by kernel_rfl) (by simp only [List.getElem?_toArray, List.getElem?_cons_succ, List.getElem?_cons_zero]; exact rfl) (by kernel_rfl) (by kernel_rfl) (by kernel_rfl) (by decide) ?q4 ?y4 (by assumption) ?_
          case q4 => exact fun _ _ _ h => h
          case y4 => exact Or.inl ⟨rfl, fun w' hSw => by obtain ⟨q1, q2, q3, q4⟩ := hSw; go_simp; (try with_reducible rfl)⟩
          (try simp only [Act.put, List.setIfInBounds_toArray, List.set_cons_zero, List.set_cons_succ])
          refine wpBut.take (i := 6) (v := ?_) _ (by simp only [List.getElem?_toArray, List.getElem?_cons_succ, List.getElem?_cons_zero]; exact rfl) (by kernel_rfl) (by simp only [List.getElem?_toArray, List.getElem?_cons_succ, List.getElem?_cons_zero]; exact rfl) (by kernel_rfl) (by kernel_rfl) (by kernel_rfl) (by decide) ?q6 ?y6 (by assumption) ?_
          case q6 => exact fun _ _ _ h => h
          case y6 => exact Or.inl ⟨rfl, fun w' hSw => by obtain ⟨q1, q2, q3, q4⟩ := hSw; go_simp; (try with_reducible rfl)⟩
          (try simp only [Act.put, List.setIfInBounds_toArray, List.set_cons_zero, List.set_cons_succ])
          refine wpBut.take (i := 7) (v := ?_) _ (by simp only [List.getElem?_toArray, List.getElem?_cons_succ, List.getElem?_cons_zero]; exact rfl) (by kernel_rfl) (by simp only [List.getElem?_toArray, List.getElem?_cons_succ, List.getElem?_cons_zero]; exact rfl) (by kernel_rfl) (by kernel_rfl) (by kernel_rfl) (by decide) ?q7 ?y7 (by assumption) ?_
          case q7 => exact fun _ _ _ h => h
          case y7 => exact Or.inl ⟨rfl, fun w' hSw => by obtain ⟨q1, q2, q3, q4⟩ := hSw; go_simp; (try with_reducible rfl)⟩
          (try simp only [Act.put, List.setIfInBounds_toArray, List.set_cons_zero, List.set_cons_succ])
          refine wpBut.take (i := 8) (v := ?_) _ (by simp only [List.getElem?_toArray, List.getElem?_cons_succ, List.getElem?_cons_zero]; exact rfl) (by kernel_rfl) (by simp only [List.getElem?_toArray, List.getElem?_cons_succ, List.getElem?_cons_zero]; exact rfl) (by kernel_rfl) (by kernel_rfl) (by kernel_rfl) (by decide) ?q8 ?y8 (by assumption) ?_
          case q8 => exact fun _ _ _ h => h
          case y8 => exact Or.inl ⟨rfl, fun w' hSw => by obtain ⟨q1, q2, q3, q4⟩ := hSw; go_simp; (try with_reducible rfl)⟩
          (try simp only [Act.put, List.setIfInBounds_toArray, List.set_cons_zero, List.set_cons_succ])
          refine wpBut.one (i := 5) (by kernel_rfl) (by simp only [List.getElem?_toArray, List.getElem?_cons_succ, List.getElem?_cons_zero]; exact rfl) (fun K hK => ?_)
          go_simp
          refine (Tryd.value_w a _ hal.1 henv5 (by have := hz5; show 4 ≤ W5.heap.size; omega)).mono ?_
          rintro e W6 ⟨rfl, hb6⟩
          have hS6 := hSS.below hb6
          have hz6 : W5.heap.size ≤ W6.heap.size := hb6.size
          dsimp only
          refine hK.out _ _ (fun _ => hS6) ?_
          clear hK K
          (try simp only [Act.put, List.setIfInBounds_toArray, List.set_cons_zero, List.set_cons_succ])
          refine wpBut.one (i := 9) (by kernel_rfl) (by simp only [List.getElem?_toArray, List.getElem?_cons_succ, List.getElem?_cons_zero]; exact rfl) (fun K hK => ?_)
          go_simp
          refine (Tryd.rbytes_w b _ hal.2 (env_below henv5 (B := W5.drew.heap.size) (by show 4 ≤ W5.heap.size; omega) hb6) (by omega)).mono ?_
          rintro e W7 ⟨rfl, hb7⟩
          have hS7 := hS6.below hb7
          have hz7 := hb7.size
          dsimp only
          refine hK.out _ _ (fun _ => hS7) ?_
          clear hK K
          (try simp only [Act.put, List.setIfInBounds_toArray, List.set_cons_zero, List.set_cons_succ])
          refine wpBut.take (i := 10) (v := ?_) _ (by simp only [List.getElem?_toArray, List.getElem?_cons_succ, List.getElem?_cons_zero]; exact rfl) (by kernel_rfl) (by simp only [List.getElem?_toArray, List.getElem?_cons_succ, List.getElem?_cons_zero]; exact rfl) (by kernel_rfl) (by kernel_rfl) (by kernel_rfl) (by decide) ?q10 ?y10 (by assumption) ?_
          case q10 => exact fun _ _ _ h => h
          case y10 => exact Or.inl ⟨rfl, fun w' hSw => by obtain ⟨q1, q2, q3, q4⟩ := hSw; go_simp; (try with_reducible rfl)⟩
          (try simp only [Act.put, List.setIfInBounds_toArray, List.set_cons_zero, List.set_cons_succ])
          refine wpBut.one (i := 11) (by kernel_rfl) (by simp only [List.getElem?_toArray, List.getElem?_cons_succ, List.getElem?_cons_zero]; exact rfl) (fun K hK => ?_)
          have hb8 : Below W7.heap.size W7 (W7.alloc (.cells #[.int .i64 (valQ a), .string ⟨⟨bytQ b⟩⟩] 40)) := (Below.refl _ _).alloc (Nat.le_refl _) _
          have hS8 := hS7.below hb8
          have hbA : Below W5.heap.size W5 (W7.alloc (.cells #[.int .i64 (valQ a), .string ⟨⟨bytQ b⟩⟩] 40)) := (((drew_below W5 _).trans hb6).trans (hb7.mono hz6)).trans (hb8.mono (Nat.le_trans hz6 hz7))
          have hOv := own_below HL5.out hbA
          have hbmV := (hbA.block w.heap.size (by omega)).trans HB5.out
          have hg5V := (hbA.block g5 (by omega)).trans hg5c
          go_simp
          refine hK.out _ _ (fun _ => hS8) ?_
          clear hK K
          (try simp only [Act.put, List.setIfInBounds_toArray, List.set_cons_zero, List.set_cons_succ])
          refine wpBut.one (i := 12) (by kernel_rfl) (by simp only [List.getElem?_toArray, List.getElem?_cons_succ, List.getElem?_cons_zero]; exact rfl) (fun K hK => ?_)
          refine step_append_lies _ (by rfl) (.tmp 89) (.tmp 99) 23 (by rfl) B 40 j0 (.agg #[.int .i64 0, .string ByteArray.empty]) 2 24 Tryd.underlying23 JI.out JZ0.out JZ1.out JZ2.out rfl (by decide) vk _ _ (by rfl) hOv ⟨W7.heap.size, 0, none⟩ 1 1 [.int .i64 (valQ a), .string ⟨⟨bytQ b⟩⟩] (by rfl) rfl (two_cell _ _ _ _) (by simp [Value.oneCell']) (by decide) (by unfold maxLen; omega) (by omega) (Nat.le_trans hBz hbA.size) _ rfl ?_
          intro g' cap' W8 hown8 hgrow hat hlt'
          have hS9 := hS8.grown hgrow (own_ne hOv hbmV (by decide)) (own_ne hOv hg5V (by decide))
          refine hK.out _ _ (fun _ => hS9) ?_
          clear hK K
          (try simp only [Act.put, List.setIfInBounds_toArray, List.set_cons_zero, List.set_cons_succ])
          refine wpBut.take (i := 13) (v := ?_) _ (by simp only [List.getElem?_toArray, List.getElem?_cons_succ, List.getElem?_cons_zero]; exact rfl) (by kernel_rfl) (by simp only [List.getElem?_toArray, List.getElem?_cons_succ, List.getElem?_cons_zero]; exact rfl) (by kernel_rfl) (by kernel_rfl) (by kernel_rfl) (by decide) ?q13 ?y13 (by assumption) ?_
          case q13 => exact fun _ _ _ h => h
          case y13 => exact Or.inl ⟨rfl, fun w' hSw => by obtain ⟨q1, q2, q3, q4⟩ := hSw; go_simp; (try with_reducible rfl)⟩
          (try simp only [Act.put, List.setIfInBounds_toArray, List.set_cons_zero, List.set_cons_succ])
          refine wpBut.one (i := 14) (by kernel_rfl) (by simp only [List.getElem?_toArray, List.getElem?_cons_succ, List.getElem?_cons_zero]; exact rfl) (fun K hK => ?_)
          obtain ⟨q1, q2, q3, q4⟩ := hS9
          go_simp
          refine hK.out _ _ (fun h => absurd rfl h) ?_
          clear hK K
          (try simp only [Act.put, List.setIfInBounds_toArray, List.set_cons_zero, List.set_cons_succ])
          refine wpBut.done (by kernel_rfl) ?_ _
          have hRV := (hbA.block (w.heap.size + 1) (by omega)).trans HR5.out
          obtain ⟨csg, hcg⟩ := own_row HO3.out
          have hGV : (W7.alloc (.cells #[.int .i64 (valQ a), .string ⟨⟨bytQ b⟩⟩] 40)).heap[g]? = some (.cells csg 9 (0, 0)) := ((hbA.block g (by omega)).trans HG5.out).trans hcg
          have hsV := own_below HS5.out hbA
          have hk8 := (HK5.out.trans (Keeps.of hbA)).grownS (n := Lk.length + 1) (cap := cap') hgrow hat
          have hb8' := (hgrow.block _ (Array.getElem?_eq_some_iff.1 hbmV).1 (own_ne hOv hbmV (by decide))).trans hbmV
          have hr8 := (hgrow.block _ (Array.getElem?_eq_some_iff.1 hRV).1 (own_ne hOv hRV (by decide))).trans hRV
          have hg8 := (hgrow.block _ (Array.getElem?_eq_some_iff.1 hGV).1 (own_ne hOv hGV (by decide))).trans hGV
          have hs8 := hsV.kept hgrow (by
            rcases hsV.2 with ⟨h0, _⟩ | ⟨g0, _, cur, h0, _, hg0, _⟩
            · left; rw [h0]; rfl
            · right; rw [h0]; exact own_ne hOv hg0 (by decide))
          have hLn : m.subs ++ (ps.take (k + 1)).flatMap subQ = Lk ++ [⟨valQ a, bytQ b⟩] := by
            have : subQ pk = [⟨valQ a, bytQ b⟩] := by unfold subQ; rw [HAB.out]
            rw [List.take_succ_eq_append_getElem hlt, List.flatMap_append, ← List.append_assoc, ← HLk.out, List.flatMap_cons, List.flatMap_nil, List.append_nil, (List.getElem?_eq_some_iff.1 hpk).2, this]
          have hb9 := heap_setCell_same W8 w.heap.size 24 _ _ (.slice (some ⟨g', 0, none⟩) (Lk.length + 1) cap') hb8'
          have hr9 := (heap_setCell_other W8 ⟨w.heap.size, 24, none⟩ (w.heap.size + 1) (.slice (some ⟨g', 0, none⟩) (Lk.length + 1) cap') (by show w.heap.size + 1 ≠ w.heap.size; omega)).trans hr8
          have hg9 := (heap_setCell_other W8 ⟨w.heap.size, 24, none⟩ g (.slice (some ⟨g', 0, none⟩) (Lk.length + 1) cap') (by show g ≠ w.heap.size; omega)).trans (hg8.trans hcg.symm)
          have hbut : But w.heap.size W8 (W8.setCell ⟨w.heap.size, 24, none⟩ (.slice (some ⟨g', 0, none⟩) (Lk.length + 1) cap')) := But.set _
          have HL9 := Lib.hid (own_but hown8 hb8' (by decide) hbut)
          have HS9 := Lib.hid (own_but hs8 hb8' (by decide) hbut)
          have HB9 := Lib.hid hb9
          have HR9 := Lib.hid hr9
          have HG9 := Lib.hid hg9
          have HK9 := Lib.hid (hk8.set (o := 24) (Nat.le_refl _) (.slice (some ⟨g', 0, none⟩) (Lk.length + 1) cap'))
          have HLN := Lib.hid hLn
          clear hb9 hr9 hg9 hbut hk8 hb8' hr8 hg8 hs8 hLn hown8 hgrow hat hlt' hS8 hS7 hS6 hSS hbA hb8 hb7 hb6 hOv hbmV hg5V hRV hGV hsV q1 q2 q3 q4
          generalize W8.setCell ⟨w.heap.size, 24, none⟩ (.slice (some ⟨g', 0, none⟩) (Lk.length + 1) cap') = W9 at HL9 HS9 HB9 HR9 HG9 HK9 ⊢
          go_wp2_with fail
          go_roundw
          case rel =>
            refine ⟨k + 1, .slice (some ⟨g', 0, none⟩) (Lk.length + 1) cap', by omega, by go_num, HB9, HR9, ?_, HS9, HG9, HK9⟩
            rw [HLN.out, bRow_snoc, List.length_append]
            exact HL9
          case measure => simp [RowKit.intOf]; omega
        · have hb2 : (((splitC 58 pk).length : Int) == 2) = false := by rw [beq_eq_false_iff_ne]; omega
          have hb2' : ¬ ((splitC 58 pk).length : Int) = 2 := by omega
          have HD := Lib.hid (subQ_no h2)
          clear h2
          go_wp2_with fail
          go_roundw
          case rel =>
            have hLn : m.subs ++ (ps.take (k + 1)).flatMap subQ = m.subs ++ (ps.take k).flatMap subQ := by
              rw [List.take_succ_eq_append_getElem hlt, List.flatMap_append, List.flatMap_cons, List.flatMap_nil, List.append_nil, (List.getElem?_eq_some_iff.1 hpk).2, HD.out, List.append_nil]
            refine ⟨k + 1, vk, by omega, by go_num, HB5, HR5, ?_, HS5, HG5, HK5⟩
            rw [hLn]; exact HL5
          case measure => simp [RowKit.intOf]; omega
      · obtain rfl : k = ps.length := by omega
        have htk : ps.take ps.length = ps := List.take_of_length_le (Nat.le_refl _)
        have hvk1 : vk.oneCell' = true := by obtain ⟨a, n, c, rfl⟩ := own_form HLK.out; rfl
        have hB4' := HBK.out
        have hL4 := HLK.out
        rw [htk] at hB4' hL4
        have HB' := Lib.hid hB4'
        have HL' := Lib.hid hL4
        clear hB4' hL4 HBK HLK
        repeat' (first | (with_reducible apply gateD (N := 102); · rfl) | go_values | go_skip | go_guarded | go_step | go_upon | go_back | (simp only [Int.not_lt, Int.not_le] at *; go_simp))
        rename_i K1 hk1 K hk
        refine Lib.hid ?_
        refine wp_load_row 25 (.tmp 3) rfl w.heap.size rfl 25 _ _ _ HB'.out Tryd.underlying25 rfl (size_mcells _ _ _) ?_
        refine hk _ _ ?_
        refine wpList_store_row rfl 25 (.tmp 6) (.tmp 102) rfl (w.heap.size + 1) _ rfl rfl 25 zeroU HRK.out (size_mcells _ _ _) rfl (mcells_one _ hvl1 hvk1) ?_
        refine wpList_nil ?_
        refine hk1 _ _ ?_
        refine wp_ret ?_
        refine bodyPost_ret (results_cell_row rfl _ _ (w.heap.size + 1) 25 _ _ _ (by rfl) (row_set HRK.out) Tryd.underlying25 rfl (size_mcells _ _ _)) rfl ?_
        rw [show moreQ m [115, 117, 98, 115] s = { m with subs := m.subs ++ ps.flatMap subQ } by rw [HPS.out]; rfl]
        exact ⟨vl, vk, rfl, own_but HSK.out HRK.out (by decide) (But.row _ _), own_but HL'.out HRK.out (by decide) (But.row _ _), HKK.out.row (by omega) _⟩
  rename_i K1 hk1 K hk
  refine Lib.hid ?_
  refine wp_load_row 25 (.tmp 3) rfl w.heap.size rfl 25 _ _ _ HS.out.box Tryd.underlying25 rfl (by rw [hUs]; kernel_rfl) ?_
  refine hk _ _ ?_
  refine wpList_store_row rfl 25 (.tmp 6) (.tmp 102) rfl (w.heap.size + 1) _ rfl rfl 25 zeroU HS.out.res (by rw [hUs]; kernel_rfl) (by rw [hUs]; rfl) HO.out ?_
  refine wpList_nil ?_
  refine hk1 _ _ ?_
  refine wp_ret ?_
  refine bodyPost_ret (results_cell_row rfl _ _ (w.heap.size + 1) 25 _ _ _ (by rfl) (row_set HS.out.res) Tryd.underlying25 rfl (by rw [hUs]; kernel_rfl)) rfl ?_
  have hq : moreQ m nm s = m := by
    unfold moreQ
    iterate 11 rw [if_neg (ne_bq (by assumption))]
  rw [hq, HU.out]
  exact ⟨vl, vs, rfl, own_below HL.out (below_row HS.out.below (Nat.le_succ _) _), own_below HB.out (below_row HS.out.below (Nat.le_succ _) _), Keeps.of (below_row HS.out.below (Nat.le_succ _) _)⟩
end Go.Proofs
