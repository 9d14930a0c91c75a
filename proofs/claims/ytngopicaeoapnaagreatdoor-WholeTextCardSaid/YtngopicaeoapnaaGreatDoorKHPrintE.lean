import Derived.Test.YtngopicaeoapnaaGreatDoorKHPrintD
import Derived.Test.YtngopicaeoapnaaGreatDoorKM0
set_option linter.unusedVariables false
set_option linter.unusedSimpArgs false
set_option maxRecDepth 100000
namespace Go.Proofs
open Go.RowKit Go.Sort Go.Lib
open Go.VI
def ae2 (m : aa2) (vl vs : Value) : Array Value := #[.int .i64 m.kind, .int .i64 m.cmd, .int .i64 m.ver, .string ⟨⟨m.auth⟩⟩, .int .i64 m.family, .int .i64 m.ae, .string ⟨⟨m.prefix_⟩⟩, .int .i64 m.plen, .int .i64 m.tag, .string ⟨⟨m.next⟩⟩, .int .i64 m.metric, .string ⟨⟨m.id⟩⟩, .int .i64 m.seq, .int .i64 m.seq2, .int .i64 m.interval, .int .i64 m.flags, .int .i64 m.hops, .int .i64 m.nonce, .int .i64 m.cost, .string ⟨⟨m.addr⟩⟩, .string ⟨⟨m.orig⟩⟩, vl, .int .i64 m.type_, .string ⟨⟨m.data⟩⟩, vs]
structure el3 (m : aa2) : Prop where
  kind : -9223372036854775808 ≤ m.kind ∧ m.kind ≤ 9223372036854775807
  cmd : -9223372036854775808 ≤ m.cmd ∧ m.cmd ≤ 9223372036854775807
  ver : -9223372036854775808 ≤ m.ver ∧ m.ver ≤ 9223372036854775807
  family : -9223372036854775808 ≤ m.family ∧ m.family ≤ 9223372036854775807
  ae : -9223372036854775808 ≤ m.ae ∧ m.ae ≤ 9223372036854775807
  plen : -9223372036854775808 ≤ m.plen ∧ m.plen ≤ 9223372036854775807
  tag : -9223372036854775808 ≤ m.tag ∧ m.tag ≤ 9223372036854775807
  metric : -9223372036854775808 ≤ m.metric ∧ m.metric ≤ 9223372036854775807
  seq : -9223372036854775808 ≤ m.seq ∧ m.seq ≤ 9223372036854775807
  seq2 : -9223372036854775808 ≤ m.seq2 ∧ m.seq2 ≤ 9223372036854775807
  interval : -9223372036854775808 ≤ m.interval ∧ m.interval ≤ 9223372036854775807
  flags : -9223372036854775808 ≤ m.flags ∧ m.flags ≤ 9223372036854775807
  hops : -9223372036854775808 ≤ m.hops ∧ m.hops ≤ 9223372036854775807
  nonce : -9223372036854775808 ≤ m.nonce ∧ m.nonce ≤ 9223372036854775807
  cost : -9223372036854775808 ≤ m.cost ∧ m.cost ≤ 9223372036854775807
  type_ : -9223372036854775808 ≤ m.type_ ∧ m.type_ ≤ 9223372036854775807
  list : ∀ d ∈ m.list, -9223372036854775808 ≤ d.seq ∧ d.seq ≤ 9223372036854775807
  subs : ∀ d ∈ m.subs, -9223372036854775808 ≤ d.type_ ∧ d.type_ ≤ 9223372036854775807
def okF (m : aa2) : Nat → Prop
  | 0 => rng m.cmd
  | 1 => rng m.ver
  | 2 => True
  | 3 => rng m.family
  | 4 => rng m.ae
  | 5 => True
  | 6 => rng m.plen
  | 7 => rng m.tag
  | 8 => True
  | 9 => rng m.metric
  | 10 => True
  | 11 => rng m.seq
  | 12 => rng m.seq2
  | 13 => rng m.interval
  | 14 => rng m.flags
  | 15 => rng m.hops
  | 16 => rng m.nonce
  | 17 => rng m.cost
  | 18 => True
  | 19 => True
  | 20 => ∀ d ∈ m.list, rng d.seq
  | 21 => rng m.type_
  | 22 => True
  | 23 => ∀ d ∈ m.subs, rng d.type_
  | _ => True
theorem dT7 {m : aa2} : ad7 m ↔ ∀ k, k < 24 → okF m k := by
  constructor
  · intro h k hk
    match k, hk with
    | 0, _ => exact h.cmd
    | 1, _ => exact h.ver
    | 2, _ => exact trivial
    | 3, _ => exact h.family
    | 4, _ => exact h.ae
    | 5, _ => exact trivial
    | 6, _ => exact h.plen
    | 7, _ => exact h.tag
    | 8, _ => exact trivial
    | 9, _ => exact h.metric
    | 10, _ => exact trivial
    | 11, _ => exact h.seq
    | 12, _ => exact h.seq2
    | 13, _ => exact h.interval
    | 14, _ => exact h.flags
    | 15, _ => exact h.hops
    | 16, _ => exact h.nonce
    | 17, _ => exact h.cost
    | 18, _ => exact trivial
    | 19, _ => exact trivial
    | 20, _ => exact h.list
    | 21, _ => exact h.type_
    | 22, _ => exact trivial
    | 23, _ => exact h.subs
    | k + 24, hk => exact absurd hk (by omega)
  · intro h
    exact ⟨h 0 (by decide), h 1 (by decide), h 3 (by decide), h 4 (by decide), h 6 (by decide), h 7 (by decide), h 9 (by decide), h 11 (by decide), h 12 (by decide), h 13 (by decide), h 14 (by decide), h 15 (by decide), h 16 (by decide), h 17 (by decide), h 21 (by decide), h 20 (by decide), h 23 (by decide)⟩
structure cc4 (w : World) (b : Nat) (m : aa2) (vl vs : Value) : Prop where
  box : w.heap[b]? = some (.cells (ae2 m vl vs) 33 (0, 0))
  list : av0 w vl (m.list.map bo5)
  subs : av0 w vs (m.subs.map bo6)
theorem cc4.lt {w : World} {b : Nat} {m : aa2} {vl vs : Value} (h : cc4 w b m vl vs) : b < w.heap.size := (Array.getElem?_eq_some_iff.1 h.box).1
theorem cc4.cell {w : World} {b : Nat} {m : aa2} {vl vs : Value} (h : cc4 w b m vl vs) (o : Nat) : w.cell? ⟨b, o, none⟩ = (ae2 m vl vs)[o]? := Lib.cell_of_heap h.box o
def cu9 (w : World) (ok : Prop) (s : List UInt8) (e : Ending) (w' : World) : Prop := ((ok ∧ e = .returned (.tuple #[.string ⟨⟨s⟩⟩, .bool true])) ∨ (¬ ok ∧ ∃ t, e = .returned (.tuple #[.string t, .bool false]))) ∧ Below w.heap.size w w'
theorem ay1 {m : aa2} {b o : Nat} {wd : ByteArray} {w : World} {wl : List UInt8} (g : aa2 → Int) (p : aa2 → Int → aa2) (hr : -9223372036854775808 ≤ g m ∧ g m ≤ 9223372036854775807) (hb : b < w.heap.size) (hc : w.cell? ⟨b, o, none⟩ = some (.int .i64 (g m))) (henv : envW w) (hw : 4 ≤ w.heap.size) :
    Calls Tryz.prog 17 #[.agg #[.string wd, .pointer (some ⟨b, o, none⟩), .pointer none, .pointer none, .pointer none]] w (cu9 w (rng (g m)) ((am0 wl g p).get m)) := by
  by_cases h0 : g m = 0
  · rw [h0] at hc
    refine (Tryz.print_num0 b o wd w hb hc).mono fun e w' ⟨he, hb'⟩ => ⟨.inl ⟨by rw [h0]; exact ⟨by decide, by decide⟩, ?_⟩, hb'⟩
    rw [he, show (am0 wl g p).get m = [] from if_pos h0]
  · refine (Tryz.print_num b o wd (g m) w hr.1 hr.2 h0 hb hc henv hw).mono fun e w' ⟨he, hb'⟩ => ⟨?_, hb'⟩
    cases hf : bn4 (g m) with
    | true =>
      rw [hf] at he
      exact .inr ⟨fun h => (by rw [aT2.2 h] at hf; cases hf), _, he⟩
    | false =>
      have hg := aT2.1 hf
      rw [hf] at he
      refine .inl ⟨hg, ?_⟩
      rw [he, show (am0 wl g p).get m = as2 (g m).toNat from if_neg h0, itoa_dec hg]; rfl
theorem bv9 {m : aa2} {b o : Nat} {wd : ByteArray} {w : World} {wl : List UInt8} (g : aa2 → List UInt8) (p : aa2 → List UInt8 → aa2) (hs : (g m).length ≤ 1000000) (hb : b < w.heap.size) (hc : w.cell? ⟨b, o, none⟩ = some (.string ⟨⟨g m⟩⟩)) (henv : envW w) (hw : 4 ≤ w.heap.size) :
    Calls Tryz.prog 17 #[.agg #[.string wd, .pointer none, .pointer (some ⟨b, o, none⟩), .pointer none, .pointer none]] w (cu9 w True ((aq3 wl g p).get m)) :=
  (Tryz.print_text b o wd (g m) w hs hb hc henv hw).mono fun e w' ⟨he, hb'⟩ => ⟨.inl ⟨trivial, he⟩, hb'⟩
theorem eN4 {m : aa2} {b o : Nat} {wd : ByteArray} {w : World} {wl : List UInt8} {v : Value} (g : aa2 → List ac1) (p : aa2 → List ac1 → aa2) (hl : (g m).length ≤ 1000) (ha : ∀ d ∈ g m, d.addr.length ≤ 100000 ∧ -9223372036854775808 ≤ d.seq ∧ d.seq ≤ 9223372036854775807) (hv : av0 w v ((g m).map bo5)) (hb : b < w.heap.size) (hc : w.cell? ⟨b, o, none⟩ = some v) (henv : envW w) (hw : 4 ≤ w.heap.size) :
    Calls Tryz.prog 17 #[.agg #[.string wd, .pointer none, .pointer none, .pointer (some ⟨b, o, none⟩), .pointer none]] w (cu9 w (∀ d ∈ g m, rng d.seq) ((as3 wl g p).get m)) := by
  have nil : g m = [] → (v = .slice none 0 0 ∨ ∃ p cap, v = .slice (some p) 0 cap) → Calls Tryz.prog 17 #[.agg #[.string wd, .pointer none, .pointer none, .pointer (some ⟨b, o, none⟩), .pointer none]] w (cu9 w (∀ d ∈ g m, rng d.seq) ((as3 wl g p).get m)) := fun h0 hv =>
    (Tryz.print_list_nil b o wd v w hb hc hv).mono fun e w' ⟨he, hb'⟩ => ⟨.inl ⟨by rw [h0]; simp, by rw [he, show (as3 wl g p).get m = bi2 ((g m).map dTo) from rfl, h0]; rfl⟩, hb'⟩
  rcases hv with ⟨h0, hv⟩ | ⟨h0, hv⟩ | ⟨gb, off, cap, hv, hcap, hr⟩
  · exact nil (List.map_eq_nil_iff.1 h0) (.inl hv)
  · exact nil (List.map_eq_nil_iff.1 h0) (.inr hv)
  · rw [List.length_map] at hv hcap
    by_cases h0 : 0 < (g m).length
    · rw [hv] at hc
      refine (Tryz.print_list_row b o wd (g m) gb off cap w hb hc hcap hr h0 hl ha henv hw).mono fun e w' ⟨he, hb'⟩ => ⟨?_, hb'⟩
      exact he.imp (fun h => h) (fun h => ⟨h.1, _, h.2⟩)
    · have h1 : (g m).length = 0 := by omega
      rw [h1] at hv
      exact nil (List.length_eq_zero_iff.1 h1) (.inr ⟨_, _, hv⟩)
theorem eN5 {m : aa2} {b o : Nat} {wd : ByteArray} {w : World} {wl : List UInt8} {v : Value} (g : aa2 → List aa8) (p : aa2 → List aa8 → aa2) (hl : (g m).length ≤ 1000) (ha : ∀ d ∈ g m, d.data.length ≤ 100000 ∧ -9223372036854775808 ≤ d.type_ ∧ d.type_ ≤ 9223372036854775807) (hv : av0 w v ((g m).map bo6)) (hb : b < w.heap.size) (hc : w.cell? ⟨b, o, none⟩ = some v) (henv : envW w) (hw : 4 ≤ w.heap.size) :
    Calls Tryz.prog 17 #[.agg #[.string wd, .pointer none, .pointer none, .pointer none, .pointer (some ⟨b, o, none⟩)]] w (cu9 w (∀ d ∈ g m, rng d.type_) ((as4 wl g p).get m)) := by
  have nil : g m = [] → (v = .slice none 0 0 ∨ ∃ p cap, v = .slice (some p) 0 cap) → Calls Tryz.prog 17 #[.agg #[.string wd, .pointer none, .pointer none, .pointer none, .pointer (some ⟨b, o, none⟩)]] w (cu9 w (∀ d ∈ g m, rng d.type_) ((as4 wl g p).get m)) := fun h0 hv =>
    (Tryz.print_subs_nil b o wd v w hb hc hv).mono fun e w' ⟨he, hb'⟩ => ⟨.inl ⟨by rw [h0]; simp, by rw [he, show (as4 wl g p).get m = bi3 ((g m).map sTo) from rfl, h0]; rfl⟩, hb'⟩
  rcases hv with ⟨h0, hv⟩ | ⟨h0, hv⟩ | ⟨gb, off, cap, hv, hcap, hr⟩
  · exact nil (List.map_eq_nil_iff.1 h0) (.inl hv)
  · exact nil (List.map_eq_nil_iff.1 h0) (.inr hv)
  · rw [List.length_map] at hv hcap
    by_cases h0 : 0 < (g m).length
    · rw [hv] at hc
      refine (Tryz.print_subs_row b o wd (g m) gb off cap w hb hc hcap hr h0 hl ha henv hw).mono fun e w' ⟨he, hb'⟩ => ⟨?_, hb'⟩
      exact he.imp (fun h => h) (fun h => ⟨h.1, _, h.2⟩)
    · have h1 : (g m).length = 0 := by omega
      rw [h1] at hv
      exact nil (List.length_eq_zero_iff.1 h1) (.inr ⟨_, _, hv⟩)
structure ee3 (b : Nat) (k : Nat) (wd : List UInt8) (p1 p2 p3 p4 : Option Addr) : Prop where
  c0 : (ch8 b)[k * 5]? = some (.string ⟨⟨wd⟩⟩)
  c1 : (ch8 b)[k * 5 + 1]? = some (.pointer p1)
  c2 : (ch8 b)[k * 5 + 2]? = some (.pointer p2)
  c3 : (ch8 b)[k * 5 + 3]? = some (.pointer p3)
  c4 : (ch8 b)[k * 5 + 4]? = some (.pointer p4)
theorem dT8 (k : Nat) (hk : k < 24) (b : Nat) : ∃ (wd : List UInt8) (p1 p2 p3 p4 : Option Addr) (f : TFd aa2), ee3 b k wd p1 p2 p3 p4 ∧ fsM[k]? = some f ∧ f.w = wd ∧ wd.length ≤ 10 ∧
    ∀ (w : World) (m : aa2) (vl vs : Value), cc4 w b m vl vs → el3 m → bz8 m → envW w → 4 ≤ w.heap.size →
      Calls Tryz.prog 17 #[.agg #[.string ⟨⟨wd⟩⟩, .pointer p1, .pointer p2, .pointer p3, .pointer p4]] w (cu9 w (okF m k) (f.get m)) := by
  match k, hk with
  | 0, _ => exact ⟨aL2.w, some ⟨b, 1, none⟩, none, none, none, aL2, ⟨rfl, rfl, rfl, rfl, rfl⟩, rfl, rfl, by decide, fun w m vl vs hM hi hs he hw => ay1 (wl := aL2.w) (fun m => m.cmd) _ hi.cmd hM.lt ((hM.cell 1).trans rfl) he hw⟩
  | 1, _ => exact ⟨aL3.w, some ⟨b, 2, none⟩, none, none, none, aL3, ⟨rfl, rfl, rfl, rfl, rfl⟩, rfl, rfl, by decide, fun w m vl vs hM hi hs he hw => ay1 (wl := aL3.w) (fun m => m.ver) _ hi.ver hM.lt ((hM.cell 2).trans rfl) he hw⟩
  | 2, _ => exact ⟨az8.w, none, some ⟨b, 3, none⟩, none, none, az8, ⟨rfl, rfl, rfl, rfl, rfl⟩, rfl, rfl, by decide, fun w m vl vs hM hi hs he hw => bv9 (wl := az8.w) (fun m => m.auth) _ (by have := hs.auth; omega) hM.lt ((hM.cell 3).trans rfl) he hw⟩
  | 3, _ => exact ⟨aq0.w, some ⟨b, 4, none⟩, none, none, none, aq0, ⟨rfl, rfl, rfl, rfl, rfl⟩, rfl, rfl, by decide, fun w m vl vs hM hi hs he hw => ay1 (wl := aq0.w) (fun m => m.family) _ hi.family hM.lt ((hM.cell 4).trans rfl) he hw⟩
  | 4, _ => exact ⟨ba0.w, some ⟨b, 5, none⟩, none, none, none, ba0, ⟨rfl, rfl, rfl, rfl, rfl⟩, rfl, rfl, by decide, fun w m vl vs hM hi hs he hw => ay1 (wl := ba0.w) (fun m => m.ae) _ hi.ae hM.lt ((hM.cell 5).trans rfl) he hw⟩
  | 5, _ => exact ⟨an2.w, none, some ⟨b, 6, none⟩, none, none, an2, ⟨rfl, rfl, rfl, rfl, rfl⟩, rfl, rfl, by decide, fun w m vl vs hM hi hs he hw => bv9 (wl := an2.w) (fun m => m.prefix_) _ (by have := hs.prefix_; omega) hM.lt ((hM.cell 6).trans rfl) he hw⟩
  | 6, _ => exact ⟨az9.w, some ⟨b, 7, none⟩, none, none, none, az9, ⟨rfl, rfl, rfl, rfl, rfl⟩, rfl, rfl, by decide, fun w m vl vs hM hi hs he hw => ay1 (wl := az9.w) (fun m => m.plen) _ hi.plen hM.lt ((hM.cell 7).trans rfl) he hw⟩
  | 7, _ => exact ⟨aL4.w, some ⟨b, 8, none⟩, none, none, none, aL4, ⟨rfl, rfl, rfl, rfl, rfl⟩, rfl, rfl, by decide, fun w m vl vs hM hi hs he hw => ay1 (wl := aL4.w) (fun m => m.tag) _ hi.tag hM.lt ((hM.cell 8).trans rfl) he hw⟩
  | 8, _ => exact ⟨aA0.w, none, some ⟨b, 9, none⟩, none, none, aA0, ⟨rfl, rfl, rfl, rfl, rfl⟩, rfl, rfl, by decide, fun w m vl vs hM hi hs he hw => bv9 (wl := aA0.w) (fun m => m.next) _ (by have := hs.next; omega) hM.lt ((hM.cell 9).trans rfl) he hw⟩
  | 9, _ => exact ⟨aq1.w, some ⟨b, 10, none⟩, none, none, none, aq1, ⟨rfl, rfl, rfl, rfl, rfl⟩, rfl, rfl, by decide, fun w m vl vs hM hi hs he hw => ay1 (wl := aq1.w) (fun m => m.metric) _ hi.metric hM.lt ((hM.cell 10).trans rfl) he hw⟩
  | 10, _ => exact ⟨ba1.w, none, some ⟨b, 11, none⟩, none, none, ba1, ⟨rfl, rfl, rfl, rfl, rfl⟩, rfl, rfl, by decide, fun w m vl vs hM hi hs he hw => bv9 (wl := ba1.w) (fun m => m.id) _ (by have := hs.id; omega) hM.lt ((hM.cell 11).trans rfl) he hw⟩
  | 11, _ => exact ⟨aL5.w, some ⟨b, 12, none⟩, none, none, none, aL5, ⟨rfl, rfl, rfl, rfl, rfl⟩, rfl, rfl, by decide, fun w m vl vs hM hi hs he hw => ay1 (wl := aL5.w) (fun m => m.seq) _ hi.seq hM.lt ((hM.cell 12).trans rfl) he hw⟩
  | 12, _ => exact ⟨aA1.w, some ⟨b, 13, none⟩, none, none, none, aA1, ⟨rfl, rfl, rfl, rfl, rfl⟩, rfl, rfl, by decide, fun w m vl vs hM hi hs he hw => ay1 (wl := aA1.w) (fun m => m.seq2) _ hi.seq2 hM.lt ((hM.cell 13).trans rfl) he hw⟩
  | 13, _ => exact ⟨al4.w, some ⟨b, 14, none⟩, none, none, none, al4, ⟨rfl, rfl, rfl, rfl, rfl⟩, rfl, rfl, by decide, fun w m vl vs hM hi hs he hw => ay1 (wl := al4.w) (fun m => m.interval) _ hi.interval hM.lt ((hM.cell 14).trans rfl) he hw⟩
  | 14, _ => exact ⟨au1.w, some ⟨b, 15, none⟩, none, none, none, au1, ⟨rfl, rfl, rfl, rfl, rfl⟩, rfl, rfl, by decide, fun w m vl vs hM hi hs he hw => ay1 (wl := au1.w) (fun m => m.flags) _ hi.flags hM.lt ((hM.cell 15).trans rfl) he hw⟩
  | 15, _ => exact ⟨aA2.w, some ⟨b, 16, none⟩, none, none, none, aA2, ⟨rfl, rfl, rfl, rfl, rfl⟩, rfl, rfl, by decide, fun w m vl vs hM hi hs he hw => ay1 (wl := aA2.w) (fun m => m.hops) _ hi.hops hM.lt ((hM.cell 16).trans rfl) he hw⟩
  | 16, _ => exact ⟨au2.w, some ⟨b, 17, none⟩, none, none, none, au2, ⟨rfl, rfl, rfl, rfl, rfl⟩, rfl, rfl, by decide, fun w m vl vs hM hi hs he hw => ay1 (wl := au2.w) (fun m => m.nonce) _ hi.nonce hM.lt ((hM.cell 17).trans rfl) he hw⟩
  | 17, _ => exact ⟨aA3.w, some ⟨b, 18, none⟩, none, none, none, aA3, ⟨rfl, rfl, rfl, rfl, rfl⟩, rfl, rfl, by decide, fun w m vl vs hM hi hs he hw => ay1 (wl := aA3.w) (fun m => m.cost) _ hi.cost hM.lt ((hM.cell 18).trans rfl) he hw⟩
  | 18, _ => exact ⟨aA4.w, none, some ⟨b, 19, none⟩, none, none, aA4, ⟨rfl, rfl, rfl, rfl, rfl⟩, rfl, rfl, by decide, fun w m vl vs hM hi hs he hw => bv9 (wl := aA4.w) (fun m => m.addr) _ (by have := hs.addr; omega) hM.lt ((hM.cell 19).trans rfl) he hw⟩
  | 19, _ => exact ⟨aA5.w, none, some ⟨b, 20, none⟩, none, none, aA5, ⟨rfl, rfl, rfl, rfl, rfl⟩, rfl, rfl, by decide, fun w m vl vs hM hi hs he hw => bv9 (wl := aA5.w) (fun m => m.orig) _ (by have := hs.orig; omega) hM.lt ((hM.cell 20).trans rfl) he hw⟩
  | 20, _ => exact ⟨aA6.w, none, none, some ⟨b, 21, none⟩, none, aA6, ⟨rfl, rfl, rfl, rfl, rfl⟩, rfl, rfl, by decide, fun w m vl vs hM hi hs he hw => eN4 (wl := aA6.w) (fun m => m.list) _ hs.list.1 (fun d hd => ⟨hs.list.2 d hd, hi.list d hd⟩) hM.list hM.lt ((hM.cell 21).trans rfl) he hw⟩
  | 21, _ => exact ⟨au3.w, some ⟨b, 22, none⟩, none, none, none, au3, ⟨rfl, rfl, rfl, rfl, rfl⟩, rfl, rfl, by decide, fun w m vl vs hM hi hs he hw => ay1 (wl := au3.w) (fun m => m.type_) _ hi.type_ hM.lt ((hM.cell 22).trans rfl) he hw⟩
  | 22, _ => exact ⟨aA7.w, none, some ⟨b, 23, none⟩, none, none, aA7, ⟨rfl, rfl, rfl, rfl, rfl⟩, rfl, rfl, by decide, fun w m vl vs hM hi hs he hw => bv9 (wl := aA7.w) (fun m => m.data) _ (by have := hs.data; omega) hM.lt ((hM.cell 23).trans rfl) he hw⟩
  | 23, _ => exact ⟨aA8.w, none, none, none, some ⟨b, 24, none⟩, aA8, ⟨rfl, rfl, rfl, rfl, rfl⟩, rfl, rfl, by decide, fun w m vl vs hM hi hs he hw => eN5 (wl := aA8.w) (fun m => m.subs) _ hs.subs.1 (fun d hd => ⟨hs.subs.2 d hd, hi.subs d hd⟩) hM.subs hM.lt ((hM.cell 24).trans rfl) he hw⟩
  | k + 24, hk => exact absurd hk (by omega)
end Go.Proofs
