import Derived.Test.YtngopicaeoapnaaGreatDoorKHReadA
import Derived.Deep.RegionHeld3
import Derived.Deep.AppendLies
set_option linter.unusedVariables false
set_option linter.unusedSimpArgs false
set_option maxRecDepth 100000
namespace Go.Proofs
open Go.RowKit Go.Sort Go.Lib
open Go.VI
structure But (b : Nat) (w w' : World) : Prop where
  os : w'.os = w.os
  tape : w'.tape = w.tape
  output : w'.output = w.output
  size : w.heap.size ≤ w'.heap.size
  block : ∀ k, k < w.heap.size → k ≠ b → w'.heap[k]? = w.heap[k]?
theorem But.of {b : Nat} {w w' : World} (h : Below w.heap.size w w') : But b w w' := ⟨h.os, h.tape, h.output, h.size, fun k hk _ => h.block k hk⟩
theorem But.trans {b : Nat} {w w' w'' : World} (h : But b w w') (h' : But b w' w'') : But b w w'' :=
  ⟨h'.os.trans h.os, h'.tape.trans h.tape, h'.output.trans h.output, Nat.le_trans h.size h'.size, fun k hk hb => (h'.block k (Nat.lt_of_lt_of_le hk h.size) hb).trans (h.block k hk hb)⟩
theorem But.set {b o : Nat} {v : Value} (w : World) : But b w (w.setCell ⟨b, o, none⟩ v) :=
  ⟨rfl, rfl, rfl, by simp, fun k hk hb => by simp [World.setCell, Array.getElem?_modify, Ne.symm hb]⟩
theorem But.below {b B : Nat} {w w' : World} (h : But b w w') (hb : B ≤ b) (hB : B ≤ w.heap.size) : Below B w w' := ⟨h.os, h.tape, h.output, h.size, fun k hk => h.block k (by omega) (by omega)⟩
theorem But.grow {b : Nat} {w0 w w' : World} {row : Option Nat} (h : But b w0 w) (hg : w.grownBy w' row) (hr : ∀ k, row = some k → w0.heap.size ≤ k) : But b w0 w' :=
  ⟨hg.os.trans h.os, hg.tape.trans h.tape, hg.output.trans h.output, Nat.le_trans h.size hg.size, fun k hk hb => (hg.block k (Nat.lt_of_lt_of_le hk h.size) (fun e => by have := hr k e.symm; omega)).trans (h.block k hk hb)⟩
theorem dU0 (s : List UInt8) (c : UInt8) (w : World) (hs : s.length ≤ 1000000) :
    Calls Tryz.prog 47 #[.string ⟨⟨s⟩⟩, .string ⟨#[c]⟩] w fun e w' => e = .returned (.slice (some ⟨w.heap.size, 0, none⟩) (ab8 c s).length (ab8 c s).length) ∧ w' = w.alloc (.cells ((ab8 c s).map st).toArray 9) := by
  have hsz : (⟨⟨s⟩⟩ : ByteArray).size = s.length := rfl
  refine (eS6 ⟨⟨s⟩⟩ c w (by rw [hsz]; omega)).mono fun e w' ⟨he, hw⟩ => ?_
  have hd : (Lib.splitB ⟨#[c]⟩ 0 (Lib.countB ⟨⟨s⟩⟩ ⟨#[c]⟩) ⟨⟨s⟩⟩).map (·.data.toList) = ab8 c s := by
    rw [Lib.splitB_data]; exact dR0 c s
  have hn : Lib.countB ⟨⟨s⟩⟩ ⟨#[c]⟩ + 1 = (ab8 c s).length := by
    rw [← hd, List.length_map, Lib.splitB_all ⟨#[c]⟩ (Nat.le_refl 1) 0 _ _ rfl]
  have hm : (Lib.splitB ⟨#[c]⟩ 0 (Lib.countB ⟨⟨s⟩⟩ ⟨#[c]⟩) ⟨⟨s⟩⟩).map Value.string = (ab8 c s).map st := by
    rw [← hd, List.map_map]
    exact List.map_congr_left fun x _ => by cases x; rfl
  rw [hn] at he
  rw [hm] at hw
  exact ⟨he, hw⟩
def de9 (l : List (List UInt8)) : List Value := l.flatMap fun p => [.string ⟨⟨(Go.VP.destE p).1.addr⟩⟩, .int .i64 (Go.VP.destE p).1.seq]
theorem bg3 (l : List (List UInt8)) (p : List UInt8) : de9 (l ++ [p]) = de9 l ++ [.string ⟨⟨(Go.VP.destE p).1.addr⟩⟩, .int .i64 (Go.VP.destE p).1.seq] := by simp [de9]
theorem eE5 (w : World) (x y : Value) (t : TypeId) : ∀ (j : Nat) (u : Value), [x, y][j]? = some u → (w.alloc (.cells #[x, y] t)).cell? ((⟨w.heap.size, 0, none⟩ : Addr).add j) = some u := fun j u hj => by
  match j, hj with
  | 0, hj => injection hj with hj; subst hj; rw [Lib.add_plain, World.cell?_alloc_new]; rfl
  | 1, hj => injection hj with hj; subst hj; rw [Lib.add_plain, World.cell?_alloc_new]; rfl
abbrev KS (F0 : Nat) (q : Value) (D : Nat) (x y : Value) (W : World) : Prop := W.cell? ⟨F0, 3, none⟩ = some q ∧ W.cell? ⟨D, 0, none⟩ = some x ∧ W.cell? ⟨D, 1, none⟩ = some y ∧ F0 < W.heap.size ∧ D < W.heap.size
theorem ag0 {F0 D : Nat} {q x y : Value} {W W' : World} (h : KS F0 q D x y W) (hb : Below W.heap.size W W') : KS F0 q D x y W' :=
  ⟨(hb.cell (p := ⟨F0, 3, none⟩) h.2.2.2.1).trans h.1, (hb.cell (p := ⟨D, 0, none⟩) h.2.2.2.2).trans h.2.1, (hb.cell (p := ⟨D, 1, none⟩) h.2.2.2.2).trans h.2.2.1, Nat.lt_of_lt_of_le h.2.2.2.1 hb.size, Nat.lt_of_lt_of_le h.2.2.2.2 hb.size⟩
theorem ai1 {F0 D : Nat} {q x y : Value} {W W' : World} {row : Option Nat} (h : KS F0 q D x y W) (hg : W.grownBy W' row) (h1 : some F0 ≠ row) (h2 : some D ≠ row) : KS F0 q D x y W' :=
  ⟨(hg.cell_far ⟨F0, 3, none⟩ h.2.2.2.1 h1).trans h.1, (hg.cell_far ⟨D, 0, none⟩ h.2.2.2.2 h2).trans h.2.1, (hg.cell_far ⟨D, 1, none⟩ h.2.2.2.2 h2).trans h.2.2.1, Nat.lt_of_lt_of_le h.2.2.2.1 hg.size, Nat.lt_of_lt_of_le h.2.2.2.2 hg.size⟩
theorem ak7 {F0 D b o : Nat} {q x y v : Value} {W : World} (h : KS F0 q D x y W) (h1 : b ≠ F0) (h2 : b ≠ D) : KS F0 q D x y (W.setCell ⟨b, o, none⟩ v) :=
  have hb := But.set (b := b) (o := o) (v := v) W
  ⟨(World.cell?_of_block (a := ⟨F0, 3, none⟩) (hb.block F0 h.2.2.2.1 (Ne.symm h1))).trans h.1, (World.cell?_of_block (a := ⟨D, 0, none⟩) (hb.block D h.2.2.2.2 (Ne.symm h2))).trans h.2.1, (World.cell?_of_block (a := ⟨D, 1, none⟩) (hb.block D h.2.2.2.2 (Ne.symm h2))).trans h.2.2.1, Nat.lt_of_lt_of_le h.2.2.2.1 hb.size, Nat.lt_of_lt_of_le h.2.2.2.2 hb.size⟩
theorem aI1 (w : World) (x y : Value) (t : TypeId) (H : Nat) (hH : w.heap.size = H) : ∀ (j : Nat) (u : Value), [x, y][j]? = some u → ((w.alloc (.cells #[x, y] t)).drew).cell? ((⟨H, 0, none⟩ : Addr).add j) = some u := fun j u hj => by
  subst hH
  rw [World.cell?_drew]
  exact eE5 w x y t j u hj
theorem aC1 {w : World} {b o : Nat} {cs : Array Value} {T : TypeId} {fz : Nat × Nat} (x : Value) (h : w.heap[b]? = some (.cells cs T fz)) : (w.setCell ⟨b, o, none⟩ x).heap[b]? = some (.cells (cs.setIfInBounds o x) T fz) := by
  simp [World.setCell, Array.getElem?_modify, h]
theorem aB1 {w : World} {b o B : Nat} {e : TypeId} {sz : Nat} {v : Value} {n : Nat} {xs : List Value} (x : Value) (h : w.ownsRow B e sz v n xs) (hb : b < B) : (w.setCell ⟨b, o, none⟩ x).ownsRow B e sz v n xs := by
  refine ⟨h.1, ?_⟩
  rcases h.2 with hn | ⟨g, cap, cur, hv, hbg, hg, rest⟩
  · exact .inl hn
  · exact .inr ⟨g, cap, cur, hv, hbg, ((But.set (b := b) (o := o) (v := x) w).block g (Array.getElem?_eq_some_iff.1 hg).1 (by omega)).trans hg, rest⟩
theorem ag1 {k b o : Nat} {x : Value} {wB w3 : World} {row : Option Nat} {O : Obj} (h0 : wB.heap[k]? = some O) (hg : wB.grownBy w3 row) (hne : some k ≠ row) (hkb : k ≠ b) : (w3.setCell ⟨b, o, none⟩ x).heap[k]? = some O := by
  have hk := (Array.getElem?_eq_some_iff.1 h0).1
  have h1 := (hg.block k hk hne).trans h0
  exact ((But.set (b := b) (o := o) (v := x) w3).block k (Array.getElem?_eq_some_iff.1 h1).1 hkb).trans h1
set_option maxHeartbeats 4000000 in
theorem Tryz.read_list (b o : Nat) (wd : ByteArray) (s : List UInt8) (us : Array Value) (w : World) (hs : s.length ≤ 1000000) (hB : w.heap[b]? = some (.cells us 33 (0, 0))) (ho : us[o]? = some (.slice none 0 0)) (henv : envW w) (hw : 4 ≤ w.heap.size) (hb4 : 4 ≤ b) :
    Calls Tryz.prog 22 #[.agg #[.string wd, .pointer none, .pointer none, .pointer (some ⟨b, o, none⟩), .pointer none], .string ⟨⟨s⟩⟩] w fun e w' =>
      e = .returned (.bool (!s.isEmpty && (ab8 44 s).all fun p => (Go.VP.destE p).2)) ∧ But b w w' ∧ ∃ v, w'.heap[b]? = some (.cells (us.setIfInBounds o v) 33 (0, 0)) ∧ w'.ownsRow w.heap.size 73 2 v (ab8 44 s).length (de9 (ab8 44 s)) := by
  have hbl : Below w.heap.size w (w.alloc (.cells #[.string wd, .pointer none, .pointer none, .pointer (some ⟨b, o, none⟩), .pointer none] 64)) := (Below.refl _ w).alloc (Nat.le_refl _) _
  have hblt : b < w.heap.size := (Array.getElem?_eq_some_iff.1 hB).1
  have hsp := dU0 s 44 (w.alloc (.cells #[.string wd, .pointer none, .pointer none, .pointer (some ⟨b, o, none⟩), .pointer none] 64)) (by omega)
  have hsmall : ∀ x ∈ ab8 44 s, x.length ≤ 1000000 := fun x hx => Nat.le_trans (ax7 44 s x hx) hs
  have hcnt : (ab8 44 s).length ≤ 1000001 := by rw [bL4]; have := List.count_le_length (a := (44 : UInt8)) (l := s); omega
  obtain ⟨ps, hps⟩ : ∃ ps, ps = ab8 44 s := ⟨_, rfl⟩
  rw [← hps] at hsp hsmall hcnt ⊢
  have HSP := Lib.hid hsp
  have HSM := Lib.hid hsmall
  have HPS := Lib.hid hps
  have HBB := Lib.hid hB
  have HO0 := Lib.hid ho
  clear hsp hsmall hps hB ho
  have hinfo : (Tryz.prog.info? 73).map (fun i => (i.zero, i.size, i.bytes)) = some (some (.agg #[.string ByteArray.empty, .int .i64 0]), 2, 24) := by kernel_rfl
  obtain ⟨i0, hi, hz0, hz1, hz2⟩ := info_parts hinfo
  clear hinfo
  have HI := Lib.hid hi
  have HZ0 := Lib.hid hz0
  have HZ1 := Lib.hid hz1
  have HZ2 := Lib.hid hz2
  clear hi hz0 hz1 hz2
  obtain ⟨okA, hokA⟩ : ∃ okA : Nat → Bool, ∀ k, okA k = (!s.isEmpty && (ps.take k).all fun p => (Go.VP.destE p).2) := ⟨_, fun _ => rfl⟩
  have hok0 : okA 0 = !s.isEmpty := by rw [hokA]; simp
  have HOKA := Lib.hid hokA
  clear hokA
  go_enter Tryz.func22, Tryz.ntmps22
  go_wp2_with fail
  refine HSP.out.mono ?_
  rintro e w1 ⟨rfl, hw1⟩
  have hsa : (w.alloc (.cells #[.string wd, .pointer none, .pointer none, .pointer (some ⟨b, o, none⟩), .pointer none] 64)).heap.size = w.heap.size + 1 := by simp
  have hfa : (w.alloc (.cells #[.string wd, .pointer none, .pointer none, .pointer (some ⟨b, o, none⟩), .pointer none] 64)).heap[w.heap.size]? = some (.cells #[.string wd, .pointer none, .pointer none, .pointer (some ⟨b, o, none⟩), .pointer none] 64 (0, 0)) := heap_alloc_new w _
  have hba : Below (w.alloc (.cells #[.string wd, .pointer none, .pointer none, .pointer (some ⟨b, o, none⟩), .pointer none] 64)).heap.size (w.alloc (.cells #[.string wd, .pointer none, .pointer none, .pointer (some ⟨b, o, none⟩), .pointer none] 64)) w1 := by rw [hw1]; exact (Below.refl _ _).alloc (Nat.le_refl _) _
  have hf1 := (hba.block w.heap.size (by omega)).trans hfa
  have hg1 : w1.heap[(w.alloc (.cells #[.string wd, .pointer none, .pointer none, .pointer (some ⟨b, o, none⟩), .pointer none] 64)).heap.size]? = some (.cells (ps.map st).toArray 9 (0, 0)) := by rw [hw1]; exact heap_alloc_new _ _
  have hbb1 := (hba.block b (by omega)).trans ((hbl.block b hblt).trans HBB.out)
  have hbu1 : But b w w1 := But.of (hbl.trans (hba.mono (by omega)))
  have hz1' : w1.heap.size = w.heap.size + 2 := by rw [hw1]; simp
  rw [hsa] at hg1
  have HF1 := Lib.hid hf1
  have HG1 := Lib.hid hg1
  have HBB1 := Lib.hid hbb1
  have HBU1 := Lib.hid hbu1
  clear hw1 hf1 hg1 hbb1 hbu1 hba hfa HSP hbl
  rw [hsa]
  go_wp2_with fail
  go_loopw [5, 89] (fun ok i wr => ∃ k : Nat, k ≤ ps.length ∧ ok = .bool (okA k) ∧ i = .int .i64 k ∧ Hid (But b w wr) ∧ Hid (wr.heap[w.heap.size]? = some (.cells #[.string wd, .pointer none, .pointer none, .pointer (some ⟨b, o, none⟩), .pointer none] 64 (0, 0))) ∧ Hid (wr.heap[w.heap.size + 1]? = some (.cells (ps.map st).toArray 9 (0, 0))) ∧
    ∃ v, Hid (wr.heap[b]? = some (.cells (us.setIfInBounds o v) 33 (0, 0))) ∧ Hid (wr.ownsRow w.heap.size 73 2 v k (de9 (ps.take k)))) (fun _ i _ => ps.length - (RowKit.intOf i).toNat)
  case atStart =>
    refine ⟨0, Nat.zero_le _, by rw [hok0], rfl, HBU1, HF1, HG1, .slice none 0 0, ?_, World.ownsRow_nil _ _ _ _⟩
    have ho := HO0.out
    have : us.setIfInBounds o (.slice none 0 0) = us := by
      apply Array.ext_getElem?
      intro j
      by_cases hj : o = j
      · subst hj
        have := (Array.getElem?_eq_some_iff.1 ho).1
        rw [ho]; simp [this]
      · rw [Array.getElem?_setIfInBounds_ne hj]
    rw [this]; exact HBB1
  case round =>
    obtain ⟨k, hk, rfl, rfl, HBU, HF, HG, v, HBv, HO⟩ := hrel
    rename World => W0
    clear HF1 HG1 HBB1 HBU1
    have hz0 : w.heap.size + 2 ≤ W0.heap.size := by
      have h1 := (Array.getElem?_eq_some_iff.1 HG.out).1
      omega
    have henv0 := Lib.hid (Go.VI.envW_stable w W0 (fun q hq => HBU.out.block q (by omega) (by omega)) henv)
    by_cases hlt : k < ps.length
    · obtain ⟨p, hp⟩ : ∃ p, p = ps[k] := ⟨_, rfl⟩
      have hpk : ps[k]? = some p := by rw [hp]; exact List.getElem?_eq_getElem hlt
      have hcp : W0.cell? ⟨w.heap.size + 1, k, none⟩ = some (.string ⟨⟨p⟩⟩) := by
        rw [Lib.cell_of_heap HG.out k, List.getElem?_toArray, List.getElem?_map, hpk]; rfl
      have hpl := HSM.out p (by rw [hp]; exact List.getElem_mem hlt)
      have HP := Lib.hid hpk
      clear hp hpk
      have hcall := Tryz.dest_w p W0 (by omega) henv0.out (by omega)
      cases hE : Go.VP.destE p with
      | mk d q =>
      rw [hE] at hcall
      have HCALL := Lib.hid hcall
      have HE := Lib.hid hE
      clear hcall hE
      cases hok : okA k with
      | true =>
        have HOK := Lib.hid hok
        clear hok
        go_wp2_with fail
        refine HCALL.out.mono ?_
        rintro e w2 ⟨rfl, hb2⟩
        have hz2 : W0.heap.size ≤ w2.heap.size := hb2.size
        have hbv2 := (hb2.block b (by omega)).trans HBv.out
        have hO2 := ai6 HO.out hb2
        have hgb : ∀ r, v.ownBlock = some r → w.heap.size ≤ r ∧ r < w2.heap.size := fun r hr => hO2.lt r hr
        have hol : o < us.size := by have := (Array.getElem?_eq_some_iff.1 HO0.out).1; exact this
        have hks0 : KS w.heap.size (.pointer (some ⟨b, o, none⟩)) w2.heap.size (.string ⟨⟨d.addr⟩⟩) (.int .i64 d.seq) ((w2.alloc (.cells #[.string ⟨⟨d.addr⟩⟩, .int .i64 d.seq] 73)).drew) := by
          have hbd : Below w2.heap.size w2 ((w2.alloc (.cells #[.string ⟨⟨d.addr⟩⟩, .int .i64 d.seq] 73)).drew) := ((Below.refl _ _).alloc (Nat.le_refl _) _).trans (ag4 _ _)
          refine ⟨?_, by simp, by simp, by simp; omega, by simp⟩
          rw [hbd.cell (p := ⟨w.heap.size, 3, none⟩) (by show w.heap.size < _; omega), hb2.cell (p := ⟨w.heap.size, 3, none⟩) (by show w.heap.size < _; omega), Lib.cell_of_heap HF.out 3]; rfl
        have hbd : Below w2.heap.size w2 ((w2.alloc (.cells #[.string ⟨⟨d.addr⟩⟩, .int .i64 d.seq] 73)).drew) := ((Below.refl _ _).alloc (Nat.le_refl _) _).trans (ag4 _ _)
        have hbo : ((w2.alloc (.cells #[.string ⟨⟨d.addr⟩⟩, .int .i64 d.seq] 73)).drew).cell? ⟨b, o, none⟩ = some v := by
          rw [hbd.cell (p := ⟨b, o, none⟩) (by show b < _; omega), Lib.cell_of_heap hbv2 o]; simp [hol]
        have hbe : Below w2.heap.size w2 (((w2.alloc (.cells #[.string ⟨⟨d.addr⟩⟩, .int .i64 d.seq] 73)).alloc (.cells #[.string ⟨⟨d.addr⟩⟩, .int .i64 d.seq] 73)).drew) := (((Below.refl _ _).alloc (Nat.le_refl _) _).alloc (by simp) _).trans (ag4 _ _)
        have hbo2 : (((w2.alloc (.cells #[.string ⟨⟨d.addr⟩⟩, .int .i64 d.seq] 73)).alloc (.cells #[.string ⟨⟨d.addr⟩⟩, .int .i64 d.seq] 73)).drew).cell? ⟨b, o, none⟩ = some v := by
          rw [hbe.cell (p := ⟨b, o, none⟩) (by show b < _; omega), Lib.cell_of_heap hbv2 o]; simp [hol]
        have hfz2 : (((w2.alloc (.cells #[.string ⟨⟨d.addr⟩⟩, .int .i64 d.seq] 73)).alloc (.cells #[.string ⟨⟨d.addr⟩⟩, .int .i64 d.seq] 73)).drew).frozen? ⟨b, o, none⟩ = false := by
          rw [World.frozen?_of_block (a := ⟨b, o, none⟩) (hbe.block b (by omega))]
          exact Lib.frozen_of_heap hbv2 o
        have hOd := ai6 hO2 hbe
        have hnF : some w.heap.size ≠ v.ownBlock := fun e => by
          rcases HO.out.2 with ⟨h0, _⟩ | ⟨g, _, cur, h0, _, hg, _⟩
          · rw [h0] at e; cases e
          · rw [h0] at e; injection e with e; have e : w.heap.size = g := e; rw [← e, HF.out] at hg; injection hg with hg; injection hg with _ hg _; exact absurd hg (by decide)
        have hnG : some (w.heap.size + 1) ≠ v.ownBlock := fun e => by
          rcases HO.out.2 with ⟨h0, _⟩ | ⟨g, _, cur, h0, _, hg, _⟩
          · rw [h0] at e; cases e
          · rw [h0] at e; injection e with e; have e : w.heap.size + 1 = g := e; rw [← e, HG.out] at hg; injection hg with hg; injection hg with _ hg _; exact absurd hg (by decide)
        have hnb : some b ≠ v.ownBlock := fun e => by have := hgb b e.symm; omega
        have HOD := Lib.hid hOd
        have HBV2 := Lib.hid hbv2
        have HFZ2 := Lib.hid hfz2
        have HBE := Lib.hid hbe
        clear hOd hbv2 hfz2 hO2 hbe hbd hok0
        go_wp2_with fail
        refine wp_region_held_drew (S := (fun W => W.cell? ⟨w.heap.size, 3, none⟩ = some (.pointer (some ⟨b, o, none⟩)) ∧ W.cell? ⟨w2.heap.size, 0, none⟩ = some (.string ⟨⟨d.addr⟩⟩) ∧ W.cell? ⟨w2.heap.size, 1, none⟩ = some (.int .i64 d.seq) ∧ w.heap.size < W.heap.size ∧ w2.heap.size < W.heap.size)) (by kernel_rfl) ?_ (fun hHeld => ?_)
        · (try dsimp only)
          first | exact hks0 | assumption | exact ak7 (by assumption) (by omega) (by omega) | exact ai1 (by assumption) hgrow hnF (fun e => by have := hgb _ e.symm; omega) | exact ag0 (by assumption) ((Below.refl _ _).alloc (Nat.le_refl _) _)
        refine wpAnyH_take (i := 0) (oi := ?_) (v := ?_) ?iz1 (by kernel_rfl) (by kernel_rfl) (by kernel_rfl) ?qz1 ?yz1 (by assumption) ?_
        case iz1 => (simp only [List.getElem?_toArray, List.getElem?_cons_succ, List.getElem?_cons_zero]; exact rfl)
        case qz1 => exact fun _ _ _ h => h
        case yz1 => exact Or.inl ⟨rfl, fun w' hSw => by (try dsimp only at hSw); go_simp; (try with_reducible rfl)⟩
        (try simp only [Act.put, List.setIfInBounds_toArray, List.set_cons_zero, List.set_cons_succ])
        refine wpAnyH_take (i := 1) (oi := ?_) (v := ?_) ?iz2 (by kernel_rfl) (by kernel_rfl) (by kernel_rfl) ?qz2 ?yz2 (by assumption) ?_
        case iz2 => (simp only [List.getElem?_toArray, List.getElem?_cons_succ, List.getElem?_cons_zero]; exact rfl)
        case qz2 => exact fun _ _ _ h => h
        case yz2 => exact Or.inl ⟨rfl, fun w' hSw => by (try dsimp only at hSw); go_simp; (try with_reducible rfl)⟩
        (try simp only [Act.put, List.setIfInBounds_toArray, List.set_cons_zero, List.set_cons_succ])
        refine wpAnyH_take (i := 2) (oi := ?_) (v := ?_) ?iz3 (by kernel_rfl) (by kernel_rfl) (by kernel_rfl) ?qz3 ?yz3 (by assumption) ?_
        case iz3 => (simp only [List.getElem?_toArray, List.getElem?_cons_succ, List.getElem?_cons_zero]; exact rfl)
        case qz3 => exact fun _ _ _ h => h
        case yz3 => exact Or.inl ⟨rfl, fun w' hSw => by (try dsimp only at hSw); go_simp; (try with_reducible rfl)⟩
        (try simp only [Act.put, List.setIfInBounds_toArray, List.set_cons_zero, List.set_cons_succ])
        refine wpAnyH_take (i := 3) (oi := ?_) (v := ?_) ?iz4 (by kernel_rfl) (by kernel_rfl) (by kernel_rfl) ?qz4 ?yz4 (by assumption) ?_
        case iz4 => (simp only [List.getElem?_toArray, List.getElem?_cons_succ, List.getElem?_cons_zero]; exact rfl)
        case qz4 => exact fun _ _ _ h => h
        case yz4 => exact Or.inl ⟨rfl, fun w' hSw => by (try dsimp only at hSw); go_simp; (try with_reducible rfl)⟩
        (try simp only [Act.put, List.setIfInBounds_toArray, List.set_cons_zero, List.set_cons_succ])
        refine wpAnyH_take (i := 4) (oi := ?_) (v := ?_) ?iz5 (by kernel_rfl) (by kernel_rfl) (by kernel_rfl) ?qz5 ?yz5 (by assumption) ?_
        case iz5 => (simp only [List.getElem?_toArray, List.getElem?_cons_succ, List.getElem?_cons_zero]; exact rfl)
        case qz5 => exact fun _ _ _ h => h
        case yz5 => exact Or.inl ⟨rfl, fun w' hSw => by (try dsimp only at hSw); go_simp; (try with_reducible rfl)⟩
        (try simp only [Act.put, List.setIfInBounds_toArray, List.set_cons_zero, List.set_cons_succ])
        refine wpAnyH_take (i := 6) (oi := ?_) (v := ?_) ?iz6 (by kernel_rfl) (by kernel_rfl) (by kernel_rfl) ?qz6 ?yz6 (by assumption) ?_
        case iz6 => (simp only [List.getElem?_toArray, List.getElem?_cons_succ, List.getElem?_cons_zero]; exact rfl)
        case qz6 => exact fun _ _ _ h => h
        case yz6 => exact Or.inl ⟨rfl, fun w' hSw => by (try dsimp only at hSw); go_simp; (try with_reducible rfl)⟩
        (try simp only [Act.put, List.setIfInBounds_toArray, List.set_cons_zero, List.set_cons_succ])
        refine wpAnyH_take (i := 9) (oi := ?_) (v := ?_) ?iz7 (by kernel_rfl) (by kernel_rfl) (by kernel_rfl) ?qz7 ?yz7 (by assumption) ?_
        case iz7 => (simp only [List.getElem?_toArray, List.getElem?_cons_succ, List.getElem?_cons_zero]; exact rfl)
        case qz7 => exact fun _ _ _ h => h
        case yz7 => exact Or.inl ⟨rfl, fun w' hSw => by (try dsimp only at hSw); go_simp; (try with_reducible rfl)⟩
        (try simp only [Act.put, List.setIfInBounds_toArray, List.set_cons_zero, List.set_cons_succ])
        refine wpAnyH_ready (rs := [5, 7]) (by kernel_rfl) (by simp) ?_
        refine AllReadyH.cons (o := ?_) ?iz8 (fun K hK => ?sz8) ?_
        case iz8 => (simp only [List.getElem?_toArray, List.getElem?_cons_succ, List.getElem?_cons_zero]; exact rfl)
        case sz8 =>
          go_simp
          refine hK.out _ _ ?_ (fun hHeld => ?_)
          · (try dsimp only)
            first | exact hks0 | assumption | exact ak7 (by assumption) (by omega) (by omega) | exact ai1 (by assumption) hgrow hnF (fun e => by have := hgb _ e.symm; omega) | exact ag0 (by assumption) ((Below.refl _ _).alloc (Nat.le_refl _) _)
          clear hK K
          (try simp only [Act.put, List.setIfInBounds_toArray, List.set_cons_zero, List.set_cons_succ])
          refine wpAnyH_ready (rs := [7]) (by kernel_rfl) (by simp) ?_
          refine AllReadyH.cons (o := ?_) ?iz9 (fun K hK => ?sz9) ?_
          case iz9 => (simp only [List.getElem?_toArray, List.getElem?_cons_succ, List.getElem?_cons_zero]; exact rfl)
          case sz9 =>
            go_simp
            refine hK.out _ _ ?_ (fun hHeld => ?_)
            · (try dsimp only)
              first | exact hks0 | assumption | exact ak7 (by assumption) (by omega) (by omega) | exact ai1 (by assumption) hgrow hnF (fun e => by have := hgb _ e.symm; omega) | exact ag0 (by assumption) ((Below.refl _ _).alloc (Nat.le_refl _) _)
            clear hK K
            (try simp only [Act.put, List.setIfInBounds_toArray, List.set_cons_zero, List.set_cons_succ])
            refine wpAnyH_ready (rs := [8]) (by kernel_rfl) (by simp) ?_
            refine AllReadyH.cons (o := ?_) ?iz10 (fun K hK => ?sz10) ?_
            case iz10 => (simp only [List.getElem?_toArray, List.getElem?_cons_succ, List.getElem?_cons_zero]; exact rfl)
            case sz10 =>
              (refine step_append_lies _ (by rfl) (.tmp 103) (.tmp 105) 30 (by rfl) w.heap.size 73 i0 (.agg #[.string ByteArray.empty, .int .i64 0]) 2 24 Tryz.underlying30 HI.out HZ0.out HZ1.out HZ2.out rfl (by decide) v k _ (by rfl) HOD.out ⟨w2.heap.size + 1, 0, none⟩ 1 1 [.string ⟨⟨d.addr⟩⟩, .int .i64 d.seq] (by rfl) rfl (aI1 _ _ _ _ _ (by simp)) (by simp [Value.oneCell']) (by decide) (by unfold maxLen; omega) (by omega) (by simp; omega) _ rfl ?_; intro g' cap' w3 hown hgrow hat hlt'; have hx1 := (hgrow.cell_far ⟨b, o, none⟩ (by simp; omega) hnb).trans hbo2; have hx2 := (hgrow.frozen_far ⟨b, o, none⟩ (by simp; omega) hnb).trans HFZ2.out)
              refine hK.out _ _ ?_ (fun hHeld => ?_)
              · (try dsimp only)
                first | exact hks0 | assumption | exact ak7 (by assumption) (by omega) (by omega) | exact ai1 (by assumption) hgrow hnF (fun e => by have := hgb _ e.symm; omega) | exact ag0 (by assumption) ((Below.refl _ _).alloc (Nat.le_refl _) _)
              clear hK K
              (try simp only [Act.put, List.setIfInBounds_toArray, List.set_cons_zero, List.set_cons_succ])
              refine wpAnyH_take (i := 10) (oi := ?_) (v := ?_) ?iz11 (by kernel_rfl) (by kernel_rfl) (by kernel_rfl) ?qz11 ?yz11 (by assumption) ?_
              case iz11 => (simp only [List.getElem?_toArray, List.getElem?_cons_succ, List.getElem?_cons_zero]; exact rfl)
              case qz11 => exact fun _ _ _ h => h
              case yz11 => exact Or.inl ⟨rfl, fun w' hSw => by (try dsimp only at hSw); go_simp; (try with_reducible rfl)⟩
              (try simp only [Act.put, List.setIfInBounds_toArray, List.set_cons_zero, List.set_cons_succ])
              refine wpAnyH_take (i := 11) (oi := ?_) (v := ?_) ?iz12 (by kernel_rfl) (by kernel_rfl) (by kernel_rfl) ?qz12 ?yz12 (by assumption) ?_
              case iz12 => (simp only [List.getElem?_toArray, List.getElem?_cons_succ, List.getElem?_cons_zero]; exact rfl)
              case qz12 => exact fun _ _ _ h => h
              case yz12 => exact Or.inl ⟨rfl, fun w' hSw => by (try dsimp only at hSw); go_simp; (try with_reducible rfl)⟩
              (try simp only [Act.put, List.setIfInBounds_toArray, List.set_cons_zero, List.set_cons_succ])
              refine wpAnyH_take (i := 12) (oi := ?_) (v := ?_) ?iz13 (by kernel_rfl) (by kernel_rfl) (by kernel_rfl) ?qz13 ?yz13 (by assumption) ?_
              case iz13 => (simp only [List.getElem?_toArray, List.getElem?_cons_succ, List.getElem?_cons_zero]; exact rfl)
              case qz13 => exact fun _ _ _ h => h
              case yz13 => exact Or.inl ⟨rfl, fun w' hSw => by (try dsimp only at hSw); go_simp; (try with_reducible rfl)⟩
              (try simp only [Act.put, List.setIfInBounds_toArray, List.set_cons_zero, List.set_cons_succ])
              refine wpAnyH_take (i := 13) (oi := ?_) (v := ?_) ?iz14 (by kernel_rfl) (by kernel_rfl) (by kernel_rfl) ?qz14 ?yz14 (by assumption) ?_
              case iz14 => (simp only [List.getElem?_toArray, List.getElem?_cons_succ, List.getElem?_cons_zero]; exact rfl)
              case qz14 => exact fun _ _ _ h => h
              case yz14 => exact Or.inl ⟨rfl, fun w' hSw => by (try dsimp only at hSw); go_simp; (try with_reducible rfl)⟩
              (try simp only [Act.put, List.setIfInBounds_toArray, List.set_cons_zero, List.set_cons_succ])
              refine wpAnyH_ready (rs := [14]) (by kernel_rfl) (by simp) ?_
              refine AllReadyH.cons (o := ?_) ?iz15 (fun K hK => ?sz15) ?_
              case iz15 => (simp only [List.getElem?_toArray, List.getElem?_cons_succ, List.getElem?_cons_zero]; exact rfl)
              case sz15 =>
                go_simp
                refine hK.out _ _ ?_ (fun hHeld => ?_)
                · (try dsimp only)
                  first | exact hks0 | assumption | exact ak7 (by assumption) (by omega) (by omega) | exact ai1 (by assumption) hgrow hnF (fun e => by have := hgb _ e.symm; omega) | exact ag0 (by assumption) ((Below.refl _ _).alloc (Nat.le_refl _) _)
                clear hK K
                (try simp only [Act.put, List.setIfInBounds_toArray, List.set_cons_zero, List.set_cons_succ])
                refine wpAnyH_take (i := 15) (oi := ?_) (v := ?_) ?iz16 (by kernel_rfl) (by kernel_rfl) (by kernel_rfl) ?qz16 ?yz16 (by assumption) ?_
                case iz16 => (simp only [List.getElem?_toArray, List.getElem?_cons_succ, List.getElem?_cons_zero]; exact rfl)
                case qz16 => exact fun _ _ _ h => h
                case yz16 => exact Or.inl ⟨rfl, fun w' hSw => by (try dsimp only at hSw); go_simp; (try with_reducible rfl)⟩
                (try simp only [Act.put, List.setIfInBounds_toArray, List.set_cons_zero, List.set_cons_succ])
                refine wpAnyH_done (by kernel_rfl) ?_ _
                go_wp2
                go_roundw
                case rel =>
                  have hts : ps.take (k + 1) = ps.take k ++ [p] := by
                    have := (List.getElem?_eq_some_iff.1 HP.out)
                    rw [List.take_succ_eq_append_getElem this.1, this.2]
                  have hokn : okA (k + 1) = (okA k && q) := by
                    rw [HOKA.out, HOKA.out, hts, List.all_append, List.all_cons, List.all_nil, HE.out, Bool.and_true, Bool.and_assoc]
                  refine ⟨k + 1, by omega, by rw [hokn, HOK.out]; rfl, by go_num, Lib.hid ?_, Lib.hid ?_, Lib.hid ?_, .slice (some ⟨g', 0, none⟩) (k + 1) cap', Lib.hid ?_, Lib.hid ?_⟩
                  · exact ((HBU.out.trans ((But.of hb2).trans (But.of HBE.out))).grow hgrow (fun r hr => (hgb r hr).1)).trans (But.set _)
                  · exact ag1 ((HBE.out.block _ (by omega)).trans ((hb2.block _ (by omega)).trans HF.out)) hgrow hnF (by omega)
                  · exact ag1 ((HBE.out.block _ (by omega)).trans ((hb2.block _ (by omega)).trans HG.out)) hgrow hnG (by omega)
                  · have h3 := (hgrow.block b (by simp; omega) hnb).trans ((HBE.out.block b (by omega)).trans HBV2.out)
                    have := aC1 (o := o) (.slice (some ⟨g', 0, none⟩) (k + 1) cap') h3
                    rw [Array.setIfInBounds_setIfInBounds] at this
                    exact this
                  · rw [hts, bg3, HE.out]
                    exact aB1 _ hown hblt
                case measure => simp [RowKit.intOf]; omega
              exact AllReadyH.nil
            exact AllReadyH.nil
          exact AllReadyH.nil
        refine AllReadyH.cons (o := ?_) ?iz17 (fun K hK => ?sz17) ?_
        case iz17 => (simp only [List.getElem?_toArray, List.getElem?_cons_succ, List.getElem?_cons_zero]; exact rfl)
        case sz17 =>
          go_simp
          refine hK.out _ _ ?_ (fun hHeld => ?_)
          · (try dsimp only)
            first | exact hks0 | assumption | exact ak7 (by assumption) (by omega) (by omega) | exact ai1 (by assumption) hgrow hnF (fun e => by have := hgb _ e.symm; omega) | exact ag0 (by assumption) ((Below.refl _ _).alloc (Nat.le_refl _) _)
          clear hK K
          (try simp only [Act.put, List.setIfInBounds_toArray, List.set_cons_zero, List.set_cons_succ])
          refine wpAnyH_ready (rs := [5]) (by kernel_rfl) (by simp) ?_
          refine AllReadyH.cons (o := ?_) ?iz18 (fun K hK => ?sz18) ?_
          case iz18 => (simp only [List.getElem?_toArray, List.getElem?_cons_succ, List.getElem?_cons_zero]; exact rfl)
          case sz18 =>
            go_simp
            refine hK.out _ _ ?_ (fun hHeld => ?_)
            · (try dsimp only)
              first | exact hks0 | assumption | exact ak7 (by assumption) (by omega) (by omega) | exact ai1 (by assumption) hgrow hnF (fun e => by have := hgb _ e.symm; omega) | exact ag0 (by assumption) ((Below.refl _ _).alloc (Nat.le_refl _) _)
            clear hK K
            (try simp only [Act.put, List.setIfInBounds_toArray, List.set_cons_zero, List.set_cons_succ])
            refine wpAnyH_ready (rs := [8]) (by kernel_rfl) (by simp) ?_
            refine AllReadyH.cons (o := ?_) ?iz19 (fun K hK => ?sz19) ?_
            case iz19 => (simp only [List.getElem?_toArray, List.getElem?_cons_succ, List.getElem?_cons_zero]; exact rfl)
            case sz19 =>
              (refine step_append_lies _ (by rfl) (.tmp 103) (.tmp 105) 30 (by rfl) w.heap.size 73 i0 (.agg #[.string ByteArray.empty, .int .i64 0]) 2 24 Tryz.underlying30 HI.out HZ0.out HZ1.out HZ2.out rfl (by decide) v k _ (by rfl) HOD.out ⟨w2.heap.size + 1, 0, none⟩ 1 1 [.string ⟨⟨d.addr⟩⟩, .int .i64 d.seq] (by rfl) rfl (aI1 _ _ _ _ _ (by simp)) (by simp [Value.oneCell']) (by decide) (by unfold maxLen; omega) (by omega) (by simp; omega) _ rfl ?_; intro g' cap' w3 hown hgrow hat hlt'; have hx1 := (hgrow.cell_far ⟨b, o, none⟩ (by simp; omega) hnb).trans hbo2; have hx2 := (hgrow.frozen_far ⟨b, o, none⟩ (by simp; omega) hnb).trans HFZ2.out)
              refine hK.out _ _ ?_ (fun hHeld => ?_)
              · (try dsimp only)
                first | exact hks0 | assumption | exact ak7 (by assumption) (by omega) (by omega) | exact ai1 (by assumption) hgrow hnF (fun e => by have := hgb _ e.symm; omega) | exact ag0 (by assumption) ((Below.refl _ _).alloc (Nat.le_refl _) _)
              clear hK K
              (try simp only [Act.put, List.setIfInBounds_toArray, List.set_cons_zero, List.set_cons_succ])
              refine wpAnyH_take (i := 10) (oi := ?_) (v := ?_) ?iz20 (by kernel_rfl) (by kernel_rfl) (by kernel_rfl) ?qz20 ?yz20 (by assumption) ?_
              case iz20 => (simp only [List.getElem?_toArray, List.getElem?_cons_succ, List.getElem?_cons_zero]; exact rfl)
              case qz20 => exact fun _ _ _ h => h
              case yz20 => exact Or.inl ⟨rfl, fun w' hSw => by (try dsimp only at hSw); go_simp; (try with_reducible rfl)⟩
              (try simp only [Act.put, List.setIfInBounds_toArray, List.set_cons_zero, List.set_cons_succ])
              refine wpAnyH_take (i := 11) (oi := ?_) (v := ?_) ?iz21 (by kernel_rfl) (by kernel_rfl) (by kernel_rfl) ?qz21 ?yz21 (by assumption) ?_
              case iz21 => (simp only [List.getElem?_toArray, List.getElem?_cons_succ, List.getElem?_cons_zero]; exact rfl)
              case qz21 => exact fun _ _ _ h => h
              case yz21 => exact Or.inl ⟨rfl, fun w' hSw => by (try dsimp only at hSw); go_simp; (try with_reducible rfl)⟩
              (try simp only [Act.put, List.setIfInBounds_toArray, List.set_cons_zero, List.set_cons_succ])
              refine wpAnyH_take (i := 12) (oi := ?_) (v := ?_) ?iz22 (by kernel_rfl) (by kernel_rfl) (by kernel_rfl) ?qz22 ?yz22 (by assumption) ?_
              case iz22 => (simp only [List.getElem?_toArray, List.getElem?_cons_succ, List.getElem?_cons_zero]; exact rfl)
              case qz22 => exact fun _ _ _ h => h
              case yz22 => exact Or.inl ⟨rfl, fun w' hSw => by (try dsimp only at hSw); go_simp; (try with_reducible rfl)⟩
              (try simp only [Act.put, List.setIfInBounds_toArray, List.set_cons_zero, List.set_cons_succ])
              refine wpAnyH_take (i := 13) (oi := ?_) (v := ?_) ?iz23 (by kernel_rfl) (by kernel_rfl) (by kernel_rfl) ?qz23 ?yz23 (by assumption) ?_
              case iz23 => (simp only [List.getElem?_toArray, List.getElem?_cons_succ, List.getElem?_cons_zero]; exact rfl)
              case qz23 => exact fun _ _ _ h => h
              case yz23 => exact Or.inl ⟨rfl, fun w' hSw => by (try dsimp only at hSw); go_simp; (try with_reducible rfl)⟩
              (try simp only [Act.put, List.setIfInBounds_toArray, List.set_cons_zero, List.set_cons_succ])
              refine wpAnyH_ready (rs := [14]) (by kernel_rfl) (by simp) ?_
              refine AllReadyH.cons (o := ?_) ?iz24 (fun K hK => ?sz24) ?_
              case iz24 => (simp only [List.getElem?_toArray, List.getElem?_cons_succ, List.getElem?_cons_zero]; exact rfl)
              case sz24 =>
                go_simp
                refine hK.out _ _ ?_ (fun hHeld => ?_)
                · (try dsimp only)
                  first | exact hks0 | assumption | exact ak7 (by assumption) (by omega) (by omega) | exact ai1 (by assumption) hgrow hnF (fun e => by have := hgb _ e.symm; omega) | exact ag0 (by assumption) ((Below.refl _ _).alloc (Nat.le_refl _) _)
                clear hK K
                (try simp only [Act.put, List.setIfInBounds_toArray, List.set_cons_zero, List.set_cons_succ])
                refine wpAnyH_take (i := 15) (oi := ?_) (v := ?_) ?iz25 (by kernel_rfl) (by kernel_rfl) (by kernel_rfl) ?qz25 ?yz25 (by assumption) ?_
                case iz25 => (simp only [List.getElem?_toArray, List.getElem?_cons_succ, List.getElem?_cons_zero]; exact rfl)
                case qz25 => exact fun _ _ _ h => h
                case yz25 => exact Or.inl ⟨rfl, fun w' hSw => by (try dsimp only at hSw); go_simp; (try with_reducible rfl)⟩
                (try simp only [Act.put, List.setIfInBounds_toArray, List.set_cons_zero, List.set_cons_succ])
                refine wpAnyH_done (by kernel_rfl) ?_ _
                go_wp2
                go_roundw
                case rel =>
                  have hts : ps.take (k + 1) = ps.take k ++ [p] := by
                    have := (List.getElem?_eq_some_iff.1 HP.out)
                    rw [List.take_succ_eq_append_getElem this.1, this.2]
                  have hokn : okA (k + 1) = (okA k && q) := by
                    rw [HOKA.out, HOKA.out, hts, List.all_append, List.all_cons, List.all_nil, HE.out, Bool.and_true, Bool.and_assoc]
                  refine ⟨k + 1, by omega, by rw [hokn, HOK.out]; rfl, by go_num, Lib.hid ?_, Lib.hid ?_, Lib.hid ?_, .slice (some ⟨g', 0, none⟩) (k + 1) cap', Lib.hid ?_, Lib.hid ?_⟩
                  · exact ((HBU.out.trans ((But.of hb2).trans (But.of HBE.out))).grow hgrow (fun r hr => (hgb r hr).1)).trans (But.set _)
                  · exact ag1 ((HBE.out.block _ (by omega)).trans ((hb2.block _ (by omega)).trans HF.out)) hgrow hnF (by omega)
                  · exact ag1 ((HBE.out.block _ (by omega)).trans ((hb2.block _ (by omega)).trans HG.out)) hgrow hnG (by omega)
                  · have h3 := (hgrow.block b (by simp; omega) hnb).trans ((HBE.out.block b (by omega)).trans HBV2.out)
                    have := aC1 (o := o) (.slice (some ⟨g', 0, none⟩) (k + 1) cap') h3
                    rw [Array.setIfInBounds_setIfInBounds] at this
                    exact this
                  · rw [hts, bg3, HE.out]
                    exact aB1 _ hown hblt
                case measure => simp [RowKit.intOf]; omega
              exact AllReadyH.nil
            exact AllReadyH.nil
          exact AllReadyH.nil
        exact AllReadyH.nil
      | false =>
        have HOK := Lib.hid hok
        clear hok
        go_wp2_with fail
        refine HCALL.out.mono ?_
        rintro e w2 ⟨rfl, hb2⟩
        have hz2 : W0.heap.size ≤ w2.heap.size := hb2.size
        have hbv2 := (hb2.block b (by omega)).trans HBv.out
        have hO2 := ai6 HO.out hb2
        have hgb : ∀ r, v.ownBlock = some r → w.heap.size ≤ r ∧ r < w2.heap.size := fun r hr => hO2.lt r hr
        have hol : o < us.size := by have := (Array.getElem?_eq_some_iff.1 HO0.out).1; exact this
        have hks0 : KS w.heap.size (.pointer (some ⟨b, o, none⟩)) w2.heap.size (.string ⟨⟨d.addr⟩⟩) (.int .i64 d.seq) ((w2.alloc (.cells #[.string ⟨⟨d.addr⟩⟩, .int .i64 d.seq] 73)).drew) := by
          have hbd : Below w2.heap.size w2 ((w2.alloc (.cells #[.string ⟨⟨d.addr⟩⟩, .int .i64 d.seq] 73)).drew) := ((Below.refl _ _).alloc (Nat.le_refl _) _).trans (ag4 _ _)
          refine ⟨?_, by simp, by simp, by simp; omega, by simp⟩
          rw [hbd.cell (p := ⟨w.heap.size, 3, none⟩) (by show w.heap.size < _; omega), hb2.cell (p := ⟨w.heap.size, 3, none⟩) (by show w.heap.size < _; omega), Lib.cell_of_heap HF.out 3]; rfl
        have hbd : Below w2.heap.size w2 ((w2.alloc (.cells #[.string ⟨⟨d.addr⟩⟩, .int .i64 d.seq] 73)).drew) := ((Below.refl _ _).alloc (Nat.le_refl _) _).trans (ag4 _ _)
        have hbo : ((w2.alloc (.cells #[.string ⟨⟨d.addr⟩⟩, .int .i64 d.seq] 73)).drew).cell? ⟨b, o, none⟩ = some v := by
          rw [hbd.cell (p := ⟨b, o, none⟩) (by show b < _; omega), Lib.cell_of_heap hbv2 o]; simp [hol]
        have hbe : Below w2.heap.size w2 (((w2.alloc (.cells #[.string ⟨⟨d.addr⟩⟩, .int .i64 d.seq] 73)).alloc (.cells #[.string ⟨⟨d.addr⟩⟩, .int .i64 d.seq] 73)).drew) := (((Below.refl _ _).alloc (Nat.le_refl _) _).alloc (by simp) _).trans (ag4 _ _)
        have hbo2 : (((w2.alloc (.cells #[.string ⟨⟨d.addr⟩⟩, .int .i64 d.seq] 73)).alloc (.cells #[.string ⟨⟨d.addr⟩⟩, .int .i64 d.seq] 73)).drew).cell? ⟨b, o, none⟩ = some v := by
          rw [hbe.cell (p := ⟨b, o, none⟩) (by show b < _; omega), Lib.cell_of_heap hbv2 o]; simp [hol]
        have hfz2 : (((w2.alloc (.cells #[.string ⟨⟨d.addr⟩⟩, .int .i64 d.seq] 73)).alloc (.cells #[.string ⟨⟨d.addr⟩⟩, .int .i64 d.seq] 73)).drew).frozen? ⟨b, o, none⟩ = false := by
          rw [World.frozen?_of_block (a := ⟨b, o, none⟩) (hbe.block b (by omega))]
          exact Lib.frozen_of_heap hbv2 o
        have hOd := ai6 hO2 hbe
        have hnF : some w.heap.size ≠ v.ownBlock := fun e => by
          rcases HO.out.2 with ⟨h0, _⟩ | ⟨g, _, cur, h0, _, hg, _⟩
          · rw [h0] at e; cases e
          · rw [h0] at e; injection e with e; have e : w.heap.size = g := e; rw [← e, HF.out] at hg; injection hg with hg; injection hg with _ hg _; exact absurd hg (by decide)
        have hnG : some (w.heap.size + 1) ≠ v.ownBlock := fun e => by
          rcases HO.out.2 with ⟨h0, _⟩ | ⟨g, _, cur, h0, _, hg, _⟩
          · rw [h0] at e; cases e
          · rw [h0] at e; injection e with e; have e : w.heap.size + 1 = g := e; rw [← e, HG.out] at hg; injection hg with hg; injection hg with _ hg _; exact absurd hg (by decide)
        have hnb : some b ≠ v.ownBlock := fun e => by have := hgb b e.symm; omega
        have HOD := Lib.hid hOd
        have HBV2 := Lib.hid hbv2
        have HFZ2 := Lib.hid hfz2
        have HBE := Lib.hid hbe
        clear hOd hbv2 hfz2 hO2 hbe hbd hok0
        go_wp2_with fail
        refine wp_region_held_drew (S := (fun W => W.cell? ⟨w.heap.size, 3, none⟩ = some (.pointer (some ⟨b, o, none⟩)) ∧ W.cell? ⟨w2.heap.size, 0, none⟩ = some (.string ⟨⟨d.addr⟩⟩) ∧ W.cell? ⟨w2.heap.size, 1, none⟩ = some (.int .i64 d.seq) ∧ w.heap.size < W.heap.size ∧ w2.heap.size < W.heap.size)) (by kernel_rfl) ?_ (fun hHeld => ?_)
        · (try dsimp only)
          first | exact hks0 | assumption | exact ak7 (by assumption) (by omega) (by omega) | exact ai1 (by assumption) hgrow hnF (fun e => by have := hgb _ e.symm; omega) | exact ag0 (by assumption) ((Below.refl _ _).alloc (Nat.le_refl _) _)
        refine wpAnyH_take (i := 0) (oi := ?_) (v := ?_) ?iz1 (by kernel_rfl) (by kernel_rfl) (by kernel_rfl) ?qz1 ?yz1 (by assumption) ?_
        case iz1 => (simp only [List.getElem?_toArray, List.getElem?_cons_succ, List.getElem?_cons_zero]; exact rfl)
        case qz1 => exact fun _ _ _ h => h
        case yz1 => exact Or.inl ⟨rfl, fun w' hSw => by (try dsimp only at hSw); go_simp; (try with_reducible rfl)⟩
        (try simp only [Act.put, List.setIfInBounds_toArray, List.set_cons_zero, List.set_cons_succ])
        refine wpAnyH_take (i := 1) (oi := ?_) (v := ?_) ?iz2 (by kernel_rfl) (by kernel_rfl) (by kernel_rfl) ?qz2 ?yz2 (by assumption) ?_
        case iz2 => (simp only [List.getElem?_toArray, List.getElem?_cons_succ, List.getElem?_cons_zero]; exact rfl)
        case qz2 => exact fun _ _ _ h => h
        case yz2 => exact Or.inl ⟨rfl, fun w' hSw => by (try dsimp only at hSw); go_simp; (try with_reducible rfl)⟩
        (try simp only [Act.put, List.setIfInBounds_toArray, List.set_cons_zero, List.set_cons_succ])
        refine wpAnyH_take (i := 2) (oi := ?_) (v := ?_) ?iz3 (by kernel_rfl) (by kernel_rfl) (by kernel_rfl) ?qz3 ?yz3 (by assumption) ?_
        case iz3 => (simp only [List.getElem?_toArray, List.getElem?_cons_succ, List.getElem?_cons_zero]; exact rfl)
        case qz3 => exact fun _ _ _ h => h
        case yz3 => exact Or.inl ⟨rfl, fun w' hSw => by (try dsimp only at hSw); go_simp; (try with_reducible rfl)⟩
        (try simp only [Act.put, List.setIfInBounds_toArray, List.set_cons_zero, List.set_cons_succ])
        refine wpAnyH_take (i := 3) (oi := ?_) (v := ?_) ?iz4 (by kernel_rfl) (by kernel_rfl) (by kernel_rfl) ?qz4 ?yz4 (by assumption) ?_
        case iz4 => (simp only [List.getElem?_toArray, List.getElem?_cons_succ, List.getElem?_cons_zero]; exact rfl)
        case qz4 => exact fun _ _ _ h => h
        case yz4 => exact Or.inl ⟨rfl, fun w' hSw => by (try dsimp only at hSw); go_simp; (try with_reducible rfl)⟩
        (try simp only [Act.put, List.setIfInBounds_toArray, List.set_cons_zero, List.set_cons_succ])
        refine wpAnyH_take (i := 4) (oi := ?_) (v := ?_) ?iz5 (by kernel_rfl) (by kernel_rfl) (by kernel_rfl) ?qz5 ?yz5 (by assumption) ?_
        case iz5 => (simp only [List.getElem?_toArray, List.getElem?_cons_succ, List.getElem?_cons_zero]; exact rfl)
        case qz5 => exact fun _ _ _ h => h
        case yz5 => exact Or.inl ⟨rfl, fun w' hSw => by (try dsimp only at hSw); go_simp; (try with_reducible rfl)⟩
        (try simp only [Act.put, List.setIfInBounds_toArray, List.set_cons_zero, List.set_cons_succ])
        refine wpAnyH_take (i := 6) (oi := ?_) (v := ?_) ?iz6 (by kernel_rfl) (by kernel_rfl) (by kernel_rfl) ?qz6 ?yz6 (by assumption) ?_
        case iz6 => (simp only [List.getElem?_toArray, List.getElem?_cons_succ, List.getElem?_cons_zero]; exact rfl)
        case qz6 => exact fun _ _ _ h => h
        case yz6 => exact Or.inl ⟨rfl, fun w' hSw => by (try dsimp only at hSw); go_simp; (try with_reducible rfl)⟩
        (try simp only [Act.put, List.setIfInBounds_toArray, List.set_cons_zero, List.set_cons_succ])
        refine wpAnyH_take (i := 9) (oi := ?_) (v := ?_) ?iz7 (by kernel_rfl) (by kernel_rfl) (by kernel_rfl) ?qz7 ?yz7 (by assumption) ?_
        case iz7 => (simp only [List.getElem?_toArray, List.getElem?_cons_succ, List.getElem?_cons_zero]; exact rfl)
        case qz7 => exact fun _ _ _ h => h
        case yz7 => exact Or.inl ⟨rfl, fun w' hSw => by (try dsimp only at hSw); go_simp; (try with_reducible rfl)⟩
        (try simp only [Act.put, List.setIfInBounds_toArray, List.set_cons_zero, List.set_cons_succ])
        refine wpAnyH_ready (rs := [5, 7]) (by kernel_rfl) (by simp) ?_
        refine AllReadyH.cons (o := ?_) ?iz8 (fun K hK => ?sz8) ?_
        case iz8 => (simp only [List.getElem?_toArray, List.getElem?_cons_succ, List.getElem?_cons_zero]; exact rfl)
        case sz8 =>
          go_simp
          refine hK.out _ _ ?_ (fun hHeld => ?_)
          · (try dsimp only)
            first | exact hks0 | assumption | exact ak7 (by assumption) (by omega) (by omega) | exact ai1 (by assumption) hgrow hnF (fun e => by have := hgb _ e.symm; omega) | exact ag0 (by assumption) ((Below.refl _ _).alloc (Nat.le_refl _) _)
          clear hK K
          (try simp only [Act.put, List.setIfInBounds_toArray, List.set_cons_zero, List.set_cons_succ])
          refine wpAnyH_ready (rs := [7]) (by kernel_rfl) (by simp) ?_
          refine AllReadyH.cons (o := ?_) ?iz9 (fun K hK => ?sz9) ?_
          case iz9 => (simp only [List.getElem?_toArray, List.getElem?_cons_succ, List.getElem?_cons_zero]; exact rfl)
          case sz9 =>
            go_simp
            refine hK.out _ _ ?_ (fun hHeld => ?_)
            · (try dsimp only)
              first | exact hks0 | assumption | exact ak7 (by assumption) (by omega) (by omega) | exact ai1 (by assumption) hgrow hnF (fun e => by have := hgb _ e.symm; omega) | exact ag0 (by assumption) ((Below.refl _ _).alloc (Nat.le_refl _) _)
            clear hK K
            (try simp only [Act.put, List.setIfInBounds_toArray, List.set_cons_zero, List.set_cons_succ])
            refine wpAnyH_ready (rs := [8]) (by kernel_rfl) (by simp) ?_
            refine AllReadyH.cons (o := ?_) ?iz10 (fun K hK => ?sz10) ?_
            case iz10 => (simp only [List.getElem?_toArray, List.getElem?_cons_succ, List.getElem?_cons_zero]; exact rfl)
            case sz10 =>
              (refine step_append_lies _ (by rfl) (.tmp 103) (.tmp 105) 30 (by rfl) w.heap.size 73 i0 (.agg #[.string ByteArray.empty, .int .i64 0]) 2 24 Tryz.underlying30 HI.out HZ0.out HZ1.out HZ2.out rfl (by decide) v k _ (by rfl) HOD.out ⟨w2.heap.size + 1, 0, none⟩ 1 1 [.string ⟨⟨d.addr⟩⟩, .int .i64 d.seq] (by rfl) rfl (aI1 _ _ _ _ _ (by simp)) (by simp [Value.oneCell']) (by decide) (by unfold maxLen; omega) (by omega) (by simp; omega) _ rfl ?_; intro g' cap' w3 hown hgrow hat hlt'; have hx1 := (hgrow.cell_far ⟨b, o, none⟩ (by simp; omega) hnb).trans hbo2; have hx2 := (hgrow.frozen_far ⟨b, o, none⟩ (by simp; omega) hnb).trans HFZ2.out)
              refine hK.out _ _ ?_ (fun hHeld => ?_)
              · (try dsimp only)
                first | exact hks0 | assumption | exact ak7 (by assumption) (by omega) (by omega) | exact ai1 (by assumption) hgrow hnF (fun e => by have := hgb _ e.symm; omega) | exact ag0 (by assumption) ((Below.refl _ _).alloc (Nat.le_refl _) _)
              clear hK K
              (try simp only [Act.put, List.setIfInBounds_toArray, List.set_cons_zero, List.set_cons_succ])
              refine wpAnyH_take (i := 10) (oi := ?_) (v := ?_) ?iz11 (by kernel_rfl) (by kernel_rfl) (by kernel_rfl) ?qz11 ?yz11 (by assumption) ?_
              case iz11 => (simp only [List.getElem?_toArray, List.getElem?_cons_succ, List.getElem?_cons_zero]; exact rfl)
              case qz11 => exact fun _ _ _ h => h
              case yz11 => exact Or.inl ⟨rfl, fun w' hSw => by (try dsimp only at hSw); go_simp; (try with_reducible rfl)⟩
              (try simp only [Act.put, List.setIfInBounds_toArray, List.set_cons_zero, List.set_cons_succ])
              refine wpAnyH_take (i := 13) (oi := ?_) (v := ?_) ?iz12 (by kernel_rfl) (by kernel_rfl) (by kernel_rfl) ?qz12 ?yz12 (by assumption) ?_
              case iz12 => (simp only [List.getElem?_toArray, List.getElem?_cons_succ, List.getElem?_cons_zero]; exact rfl)
              case qz12 => exact fun _ _ _ h => h
              case yz12 => exact Or.inl ⟨rfl, fun w' hSw => by (try dsimp only at hSw); go_simp; (try with_reducible rfl)⟩
              (try simp only [Act.put, List.setIfInBounds_toArray, List.set_cons_zero, List.set_cons_succ])
              refine wpAnyH_ready (rs := [11, 14]) (by kernel_rfl) (by simp) ?_
              refine AllReadyH.cons (o := ?_) ?iz13 (fun K hK => ?sz13) ?_
              case iz13 => (simp only [List.getElem?_toArray, List.getElem?_cons_succ, List.getElem?_cons_zero]; exact rfl)
              case sz13 =>
                go_simp
                refine hK.out _ _ ?_ (fun hHeld => ?_)
                · (try dsimp only)
                  first | exact hks0 | assumption | exact ak7 (by assumption) (by omega) (by omega) | exact ai1 (by assumption) hgrow hnF (fun e => by have := hgb _ e.symm; omega) | exact ag0 (by assumption) ((Below.refl _ _).alloc (Nat.le_refl _) _)
                clear hK K
                (try simp only [Act.put, List.setIfInBounds_toArray, List.set_cons_zero, List.set_cons_succ])
                refine wpAnyH_take (i := 12) (oi := ?_) (v := ?_) ?iz14 (by kernel_rfl) (by kernel_rfl) (by kernel_rfl) ?qz14 ?yz14 (by assumption) ?_
                case iz14 => (simp only [List.getElem?_toArray, List.getElem?_cons_succ, List.getElem?_cons_zero]; exact rfl)
                case qz14 => exact fun _ _ _ h => h
                case yz14 => exact Or.inl ⟨rfl, fun w' hSw => by (try dsimp only at hSw); go_simp; (try with_reducible rfl)⟩
                (try simp only [Act.put, List.setIfInBounds_toArray, List.set_cons_zero, List.set_cons_succ])
                refine wpAnyH_ready (rs := [14]) (by kernel_rfl) (by simp) ?_
                refine AllReadyH.cons (o := ?_) ?iz15 (fun K hK => ?sz15) ?_
                case iz15 => (simp only [List.getElem?_toArray, List.getElem?_cons_succ, List.getElem?_cons_zero]; exact rfl)
                case sz15 =>
                  go_simp
                  refine hK.out _ _ ?_ (fun hHeld => ?_)
                  · (try dsimp only)
                    first | exact hks0 | assumption | exact ak7 (by assumption) (by omega) (by omega) | exact ai1 (by assumption) hgrow hnF (fun e => by have := hgb _ e.symm; omega) | exact ag0 (by assumption) ((Below.refl _ _).alloc (Nat.le_refl _) _)
                  clear hK K
                  (try simp only [Act.put, List.setIfInBounds_toArray, List.set_cons_zero, List.set_cons_succ])
                  refine wpAnyH_take (i := 15) (oi := ?_) (v := ?_) ?iz16 (by kernel_rfl) (by kernel_rfl) (by kernel_rfl) ?qz16 ?yz16 (by assumption) ?_
                  case iz16 => (simp only [List.getElem?_toArray, List.getElem?_cons_succ, List.getElem?_cons_zero]; exact rfl)
                  case qz16 => exact fun _ _ _ h => h
                  case yz16 => exact Or.inl ⟨rfl, fun w' hSw => by (try dsimp only at hSw); go_simp; (try with_reducible rfl)⟩
                  (try simp only [Act.put, List.setIfInBounds_toArray, List.set_cons_zero, List.set_cons_succ])
                  refine wpAnyH_done (by kernel_rfl) ?_ _
                  go_wp2
                  go_roundw
                  case rel =>
                    have hts : ps.take (k + 1) = ps.take k ++ [p] := by
                      have := (List.getElem?_eq_some_iff.1 HP.out)
                      rw [List.take_succ_eq_append_getElem this.1, this.2]
                    have hokn : okA (k + 1) = (okA k && q) := by
                      rw [HOKA.out, HOKA.out, hts, List.all_append, List.all_cons, List.all_nil, HE.out, Bool.and_true, Bool.and_assoc]
                    refine ⟨k + 1, by omega, by rw [hokn, HOK.out]; rfl, by go_num, Lib.hid ?_, Lib.hid ?_, Lib.hid ?_, .slice (some ⟨g', 0, none⟩) (k + 1) cap', Lib.hid ?_, Lib.hid ?_⟩
                    · exact ((HBU.out.trans ((But.of hb2).trans (But.of HBE.out))).grow hgrow (fun r hr => (hgb r hr).1)).trans (But.set _)
                    · exact ag1 ((HBE.out.block _ (by omega)).trans ((hb2.block _ (by omega)).trans HF.out)) hgrow hnF (by omega)
                    · exact ag1 ((HBE.out.block _ (by omega)).trans ((hb2.block _ (by omega)).trans HG.out)) hgrow hnG (by omega)
                    · have h3 := (hgrow.block b (by simp; omega) hnb).trans ((HBE.out.block b (by omega)).trans HBV2.out)
                      have := aC1 (o := o) (.slice (some ⟨g', 0, none⟩) (k + 1) cap') h3
                      rw [Array.setIfInBounds_setIfInBounds] at this
                      exact this
                    · rw [hts, bg3, HE.out]
                      exact aB1 _ hown hblt
                  case measure => simp [RowKit.intOf]; omega
                exact AllReadyH.nil
              refine AllReadyH.cons (o := ?_) ?iz17 (fun K hK => ?sz17) ?_
              case iz17 => (simp only [List.getElem?_toArray, List.getElem?_cons_succ, List.getElem?_cons_zero]; exact rfl)
              case sz17 =>
                go_simp
                refine hK.out _ _ ?_ (fun hHeld => ?_)
                · (try dsimp only)
                  first | exact hks0 | assumption | exact ak7 (by assumption) (by omega) (by omega) | exact ai1 (by assumption) hgrow hnF (fun e => by have := hgb _ e.symm; omega) | exact ag0 (by assumption) ((Below.refl _ _).alloc (Nat.le_refl _) _)
                clear hK K
                (try simp only [Act.put, List.setIfInBounds_toArray, List.set_cons_zero, List.set_cons_succ])
                refine wpAnyH_ready (rs := [11]) (by kernel_rfl) (by simp) ?_
                refine AllReadyH.cons (o := ?_) ?iz18 (fun K hK => ?sz18) ?_
                case iz18 => (simp only [List.getElem?_toArray, List.getElem?_cons_succ, List.getElem?_cons_zero]; exact rfl)
                case sz18 =>
                  go_simp
                  refine hK.out _ _ ?_ (fun hHeld => ?_)
                  · (try dsimp only)
                    first | exact hks0 | assumption | exact ak7 (by assumption) (by omega) (by omega) | exact ai1 (by assumption) hgrow hnF (fun e => by have := hgb _ e.symm; omega) | exact ag0 (by assumption) ((Below.refl _ _).alloc (Nat.le_refl _) _)
                  clear hK K
                  (try simp only [Act.put, List.setIfInBounds_toArray, List.set_cons_zero, List.set_cons_succ])
                  refine wpAnyH_take (i := 12) (oi := ?_) (v := ?_) ?iz19 (by kernel_rfl) (by kernel_rfl) (by kernel_rfl) ?qz19 ?yz19 (by assumption) ?_
                  case iz19 => (simp only [List.getElem?_toArray, List.getElem?_cons_succ, List.getElem?_cons_zero]; exact rfl)
                  case qz19 => exact fun _ _ _ h => h
                  case yz19 => exact Or.inl ⟨rfl, fun w' hSw => by (try dsimp only at hSw); go_simp; (try with_reducible rfl)⟩
                  (try simp only [Act.put, List.setIfInBounds_toArray, List.set_cons_zero, List.set_cons_succ])
                  refine wpAnyH_take (i := 15) (oi := ?_) (v := ?_) ?iz20 (by kernel_rfl) (by kernel_rfl) (by kernel_rfl) ?qz20 ?yz20 (by assumption) ?_
                  case iz20 => (simp only [List.getElem?_toArray, List.getElem?_cons_succ, List.getElem?_cons_zero]; exact rfl)
                  case qz20 => exact fun _ _ _ h => h
                  case yz20 => exact Or.inl ⟨rfl, fun w' hSw => by (try dsimp only at hSw); go_simp; (try with_reducible rfl)⟩
                  (try simp only [Act.put, List.setIfInBounds_toArray, List.set_cons_zero, List.set_cons_succ])
                  refine wpAnyH_done (by kernel_rfl) ?_ _
                  go_wp2
                  go_roundw
                  case rel =>
                    have hts : ps.take (k + 1) = ps.take k ++ [p] := by
                      have := (List.getElem?_eq_some_iff.1 HP.out)
                      rw [List.take_succ_eq_append_getElem this.1, this.2]
                    have hokn : okA (k + 1) = (okA k && q) := by
                      rw [HOKA.out, HOKA.out, hts, List.all_append, List.all_cons, List.all_nil, HE.out, Bool.and_true, Bool.and_assoc]
                    refine ⟨k + 1, by omega, by rw [hokn, HOK.out]; rfl, by go_num, Lib.hid ?_, Lib.hid ?_, Lib.hid ?_, .slice (some ⟨g', 0, none⟩) (k + 1) cap', Lib.hid ?_, Lib.hid ?_⟩
                    · exact ((HBU.out.trans ((But.of hb2).trans (But.of HBE.out))).grow hgrow (fun r hr => (hgb r hr).1)).trans (But.set _)
                    · exact ag1 ((HBE.out.block _ (by omega)).trans ((hb2.block _ (by omega)).trans HF.out)) hgrow hnF (by omega)
                    · exact ag1 ((HBE.out.block _ (by omega)).trans ((hb2.block _ (by omega)).trans HG.out)) hgrow hnG (by omega)
                    · have h3 := (hgrow.block b (by simp; omega) hnb).trans ((HBE.out.block b (by omega)).trans HBV2.out)
                      have := aC1 (o := o) (.slice (some ⟨g', 0, none⟩) (k + 1) cap') h3
                      rw [Array.setIfInBounds_setIfInBounds] at this
                      exact this
                    · rw [hts, bg3, HE.out]
                      exact aB1 _ hown hblt
                  case measure => simp [RowKit.intOf]; omega
                exact AllReadyH.nil
              exact AllReadyH.nil
            exact AllReadyH.nil
          exact AllReadyH.nil
        refine AllReadyH.cons (o := ?_) ?iz21 (fun K hK => ?sz21) ?_
        case iz21 => (simp only [List.getElem?_toArray, List.getElem?_cons_succ, List.getElem?_cons_zero]; exact rfl)
        case sz21 =>
          go_simp
          refine hK.out _ _ ?_ (fun hHeld => ?_)
          · (try dsimp only)
            first | exact hks0 | assumption | exact ak7 (by assumption) (by omega) (by omega) | exact ai1 (by assumption) hgrow hnF (fun e => by have := hgb _ e.symm; omega) | exact ag0 (by assumption) ((Below.refl _ _).alloc (Nat.le_refl _) _)
          clear hK K
          (try simp only [Act.put, List.setIfInBounds_toArray, List.set_cons_zero, List.set_cons_succ])
          refine wpAnyH_ready (rs := [5]) (by kernel_rfl) (by simp) ?_
          refine AllReadyH.cons (o := ?_) ?iz22 (fun K hK => ?sz22) ?_
          case iz22 => (simp only [List.getElem?_toArray, List.getElem?_cons_succ, List.getElem?_cons_zero]; exact rfl)
          case sz22 =>
            go_simp
            refine hK.out _ _ ?_ (fun hHeld => ?_)
            · (try dsimp only)
              first | exact hks0 | assumption | exact ak7 (by assumption) (by omega) (by omega) | exact ai1 (by assumption) hgrow hnF (fun e => by have := hgb _ e.symm; omega) | exact ag0 (by assumption) ((Below.refl _ _).alloc (Nat.le_refl _) _)
            clear hK K
            (try simp only [Act.put, List.setIfInBounds_toArray, List.set_cons_zero, List.set_cons_succ])
            refine wpAnyH_ready (rs := [8]) (by kernel_rfl) (by simp) ?_
            refine AllReadyH.cons (o := ?_) ?iz23 (fun K hK => ?sz23) ?_
            case iz23 => (simp only [List.getElem?_toArray, List.getElem?_cons_succ, List.getElem?_cons_zero]; exact rfl)
            case sz23 =>
              (refine step_append_lies _ (by rfl) (.tmp 103) (.tmp 105) 30 (by rfl) w.heap.size 73 i0 (.agg #[.string ByteArray.empty, .int .i64 0]) 2 24 Tryz.underlying30 HI.out HZ0.out HZ1.out HZ2.out rfl (by decide) v k _ (by rfl) HOD.out ⟨w2.heap.size + 1, 0, none⟩ 1 1 [.string ⟨⟨d.addr⟩⟩, .int .i64 d.seq] (by rfl) rfl (aI1 _ _ _ _ _ (by simp)) (by simp [Value.oneCell']) (by decide) (by unfold maxLen; omega) (by omega) (by simp; omega) _ rfl ?_; intro g' cap' w3 hown hgrow hat hlt'; have hx1 := (hgrow.cell_far ⟨b, o, none⟩ (by simp; omega) hnb).trans hbo2; have hx2 := (hgrow.frozen_far ⟨b, o, none⟩ (by simp; omega) hnb).trans HFZ2.out)
              refine hK.out _ _ ?_ (fun hHeld => ?_)
              · (try dsimp only)
                first | exact hks0 | assumption | exact ak7 (by assumption) (by omega) (by omega) | exact ai1 (by assumption) hgrow hnF (fun e => by have := hgb _ e.symm; omega) | exact ag0 (by assumption) ((Below.refl _ _).alloc (Nat.le_refl _) _)
              clear hK K
              (try simp only [Act.put, List.setIfInBounds_toArray, List.set_cons_zero, List.set_cons_succ])
              refine wpAnyH_take (i := 10) (oi := ?_) (v := ?_) ?iz24 (by kernel_rfl) (by kernel_rfl) (by kernel_rfl) ?qz24 ?yz24 (by assumption) ?_
              case iz24 => (simp only [List.getElem?_toArray, List.getElem?_cons_succ, List.getElem?_cons_zero]; exact rfl)
              case qz24 => exact fun _ _ _ h => h
              case yz24 => exact Or.inl ⟨rfl, fun w' hSw => by (try dsimp only at hSw); go_simp; (try with_reducible rfl)⟩
              (try simp only [Act.put, List.setIfInBounds_toArray, List.set_cons_zero, List.set_cons_succ])
              refine wpAnyH_take (i := 13) (oi := ?_) (v := ?_) ?iz25 (by kernel_rfl) (by kernel_rfl) (by kernel_rfl) ?qz25 ?yz25 (by assumption) ?_
              case iz25 => (simp only [List.getElem?_toArray, List.getElem?_cons_succ, List.getElem?_cons_zero]; exact rfl)
              case qz25 => exact fun _ _ _ h => h
              case yz25 => exact Or.inl ⟨rfl, fun w' hSw => by (try dsimp only at hSw); go_simp; (try with_reducible rfl)⟩
              (try simp only [Act.put, List.setIfInBounds_toArray, List.set_cons_zero, List.set_cons_succ])
              refine wpAnyH_ready (rs := [11, 14]) (by kernel_rfl) (by simp) ?_
              refine AllReadyH.cons (o := ?_) ?iz26 (fun K hK => ?sz26) ?_
              case iz26 => (simp only [List.getElem?_toArray, List.getElem?_cons_succ, List.getElem?_cons_zero]; exact rfl)
              case sz26 =>
                go_simp
                refine hK.out _ _ ?_ (fun hHeld => ?_)
                · (try dsimp only)
                  first | exact hks0 | assumption | exact ak7 (by assumption) (by omega) (by omega) | exact ai1 (by assumption) hgrow hnF (fun e => by have := hgb _ e.symm; omega) | exact ag0 (by assumption) ((Below.refl _ _).alloc (Nat.le_refl _) _)
                clear hK K
                (try simp only [Act.put, List.setIfInBounds_toArray, List.set_cons_zero, List.set_cons_succ])
                refine wpAnyH_take (i := 12) (oi := ?_) (v := ?_) ?iz27 (by kernel_rfl) (by kernel_rfl) (by kernel_rfl) ?qz27 ?yz27 (by assumption) ?_
                case iz27 => (simp only [List.getElem?_toArray, List.getElem?_cons_succ, List.getElem?_cons_zero]; exact rfl)
                case qz27 => exact fun _ _ _ h => h
                case yz27 => exact Or.inl ⟨rfl, fun w' hSw => by (try dsimp only at hSw); go_simp; (try with_reducible rfl)⟩
                (try simp only [Act.put, List.setIfInBounds_toArray, List.set_cons_zero, List.set_cons_succ])
                refine wpAnyH_ready (rs := [14]) (by kernel_rfl) (by simp) ?_
                refine AllReadyH.cons (o := ?_) ?iz28 (fun K hK => ?sz28) ?_
                case iz28 => (simp only [List.getElem?_toArray, List.getElem?_cons_succ, List.getElem?_cons_zero]; exact rfl)
                case sz28 =>
                  go_simp
                  refine hK.out _ _ ?_ (fun hHeld => ?_)
                  · (try dsimp only)
                    first | exact hks0 | assumption | exact ak7 (by assumption) (by omega) (by omega) | exact ai1 (by assumption) hgrow hnF (fun e => by have := hgb _ e.symm; omega) | exact ag0 (by assumption) ((Below.refl _ _).alloc (Nat.le_refl _) _)
                  clear hK K
                  (try simp only [Act.put, List.setIfInBounds_toArray, List.set_cons_zero, List.set_cons_succ])
                  refine wpAnyH_take (i := 15) (oi := ?_) (v := ?_) ?iz29 (by kernel_rfl) (by kernel_rfl) (by kernel_rfl) ?qz29 ?yz29 (by assumption) ?_
                  case iz29 => (simp only [List.getElem?_toArray, List.getElem?_cons_succ, List.getElem?_cons_zero]; exact rfl)
                  case qz29 => exact fun _ _ _ h => h
                  case yz29 => exact Or.inl ⟨rfl, fun w' hSw => by (try dsimp only at hSw); go_simp; (try with_reducible rfl)⟩
                  (try simp only [Act.put, List.setIfInBounds_toArray, List.set_cons_zero, List.set_cons_succ])
                  refine wpAnyH_done (by kernel_rfl) ?_ _
                  go_wp2
                  go_roundw
                  case rel =>
                    have hts : ps.take (k + 1) = ps.take k ++ [p] := by
                      have := (List.getElem?_eq_some_iff.1 HP.out)
                      rw [List.take_succ_eq_append_getElem this.1, this.2]
                    have hokn : okA (k + 1) = (okA k && q) := by
                      rw [HOKA.out, HOKA.out, hts, List.all_append, List.all_cons, List.all_nil, HE.out, Bool.and_true, Bool.and_assoc]
                    refine ⟨k + 1, by omega, by rw [hokn, HOK.out]; rfl, by go_num, Lib.hid ?_, Lib.hid ?_, Lib.hid ?_, .slice (some ⟨g', 0, none⟩) (k + 1) cap', Lib.hid ?_, Lib.hid ?_⟩
                    · exact ((HBU.out.trans ((But.of hb2).trans (But.of HBE.out))).grow hgrow (fun r hr => (hgb r hr).1)).trans (But.set _)
                    · exact ag1 ((HBE.out.block _ (by omega)).trans ((hb2.block _ (by omega)).trans HF.out)) hgrow hnF (by omega)
                    · exact ag1 ((HBE.out.block _ (by omega)).trans ((hb2.block _ (by omega)).trans HG.out)) hgrow hnG (by omega)
                    · have h3 := (hgrow.block b (by simp; omega) hnb).trans ((HBE.out.block b (by omega)).trans HBV2.out)
                      have := aC1 (o := o) (.slice (some ⟨g', 0, none⟩) (k + 1) cap') h3
                      rw [Array.setIfInBounds_setIfInBounds] at this
                      exact this
                    · rw [hts, bg3, HE.out]
                      exact aB1 _ hown hblt
                  case measure => simp [RowKit.intOf]; omega
                exact AllReadyH.nil
              refine AllReadyH.cons (o := ?_) ?iz30 (fun K hK => ?sz30) ?_
              case iz30 => (simp only [List.getElem?_toArray, List.getElem?_cons_succ, List.getElem?_cons_zero]; exact rfl)
              case sz30 =>
                go_simp
                refine hK.out _ _ ?_ (fun hHeld => ?_)
                · (try dsimp only)
                  first | exact hks0 | assumption | exact ak7 (by assumption) (by omega) (by omega) | exact ai1 (by assumption) hgrow hnF (fun e => by have := hgb _ e.symm; omega) | exact ag0 (by assumption) ((Below.refl _ _).alloc (Nat.le_refl _) _)
                clear hK K
                (try simp only [Act.put, List.setIfInBounds_toArray, List.set_cons_zero, List.set_cons_succ])
                refine wpAnyH_ready (rs := [11]) (by kernel_rfl) (by simp) ?_
                refine AllReadyH.cons (o := ?_) ?iz31 (fun K hK => ?sz31) ?_
                case iz31 => (simp only [List.getElem?_toArray, List.getElem?_cons_succ, List.getElem?_cons_zero]; exact rfl)
                case sz31 =>
                  go_simp
                  refine hK.out _ _ ?_ (fun hHeld => ?_)
                  · (try dsimp only)
                    first | exact hks0 | assumption | exact ak7 (by assumption) (by omega) (by omega) | exact ai1 (by assumption) hgrow hnF (fun e => by have := hgb _ e.symm; omega) | exact ag0 (by assumption) ((Below.refl _ _).alloc (Nat.le_refl _) _)
                  clear hK K
                  (try simp only [Act.put, List.setIfInBounds_toArray, List.set_cons_zero, List.set_cons_succ])
                  refine wpAnyH_take (i := 12) (oi := ?_) (v := ?_) ?iz32 (by kernel_rfl) (by kernel_rfl) (by kernel_rfl) ?qz32 ?yz32 (by assumption) ?_
                  case iz32 => (simp only [List.getElem?_toArray, List.getElem?_cons_succ, List.getElem?_cons_zero]; exact rfl)
                  case qz32 => exact fun _ _ _ h => h
                  case yz32 => exact Or.inl ⟨rfl, fun w' hSw => by (try dsimp only at hSw); go_simp; (try with_reducible rfl)⟩
                  (try simp only [Act.put, List.setIfInBounds_toArray, List.set_cons_zero, List.set_cons_succ])
                  refine wpAnyH_take (i := 15) (oi := ?_) (v := ?_) ?iz33 (by kernel_rfl) (by kernel_rfl) (by kernel_rfl) ?qz33 ?yz33 (by assumption) ?_
                  case iz33 => (simp only [List.getElem?_toArray, List.getElem?_cons_succ, List.getElem?_cons_zero]; exact rfl)
                  case qz33 => exact fun _ _ _ h => h
                  case yz33 => exact Or.inl ⟨rfl, fun w' hSw => by (try dsimp only at hSw); go_simp; (try with_reducible rfl)⟩
                  (try simp only [Act.put, List.setIfInBounds_toArray, List.set_cons_zero, List.set_cons_succ])
                  refine wpAnyH_done (by kernel_rfl) ?_ _
                  go_wp2
                  go_roundw
                  case rel =>
                    have hts : ps.take (k + 1) = ps.take k ++ [p] := by
                      have := (List.getElem?_eq_some_iff.1 HP.out)
                      rw [List.take_succ_eq_append_getElem this.1, this.2]
                    have hokn : okA (k + 1) = (okA k && q) := by
                      rw [HOKA.out, HOKA.out, hts, List.all_append, List.all_cons, List.all_nil, HE.out, Bool.and_true, Bool.and_assoc]
                    refine ⟨k + 1, by omega, by rw [hokn, HOK.out]; rfl, by go_num, Lib.hid ?_, Lib.hid ?_, Lib.hid ?_, .slice (some ⟨g', 0, none⟩) (k + 1) cap', Lib.hid ?_, Lib.hid ?_⟩
                    · exact ((HBU.out.trans ((But.of hb2).trans (But.of HBE.out))).grow hgrow (fun r hr => (hgb r hr).1)).trans (But.set _)
                    · exact ag1 ((HBE.out.block _ (by omega)).trans ((hb2.block _ (by omega)).trans HF.out)) hgrow hnF (by omega)
                    · exact ag1 ((HBE.out.block _ (by omega)).trans ((hb2.block _ (by omega)).trans HG.out)) hgrow hnG (by omega)
                    · have h3 := (hgrow.block b (by simp; omega) hnb).trans ((HBE.out.block b (by omega)).trans HBV2.out)
                      have := aC1 (o := o) (.slice (some ⟨g', 0, none⟩) (k + 1) cap') h3
                      rw [Array.setIfInBounds_setIfInBounds] at this
                      exact this
                    · rw [hts, bg3, HE.out]
                      exact aB1 _ hown hblt
                  case measure => simp [RowKit.intOf]; omega
                exact AllReadyH.nil
              exact AllReadyH.nil
            exact AllReadyH.nil
          exact AllReadyH.nil
        exact AllReadyH.nil
    · obtain rfl : k = ps.length := by omega
      have hall : okA ps.length = (!s.isEmpty && ps.all fun p => (Go.VP.destE p).2) := by rw [HOKA.out, List.take_of_length_le (Nat.le_refl _)]
      have HALL := Lib.hid hall
      clear hall hok0
      have hO := HO.out
      rw [List.take_of_length_le (Nat.le_refl _)] at hO
      go_wp2
      go_ret
      exact ⟨by rw [← HALL.out]; rfl, HBU.out, v, HBv.out, hO⟩
end Go.Proofs
