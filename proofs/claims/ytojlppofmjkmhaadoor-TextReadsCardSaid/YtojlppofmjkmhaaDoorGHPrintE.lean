import Derived.Test.YtojlppofmjkmhaaDoorGHPrintD
import Derived.Test.YtojlppofmjkmhaaDoorGM0
set_option linter.unusedVariables false
set_option linter.unusedSimpArgs false
set_option maxRecDepth 100000
namespace Go.Proofs
open Go.RowKit Go.Sort Go.Lib
open Go.VI
def mcells (m : XMsg) (vl vs : Value) : Array Value := #[.int .i64 m.kind, .int .i64 m.cmd, .int .i64 m.ver, .string ⟨⟨m.auth⟩⟩, .int .i64 m.family, .int .i64 m.ae, .string ⟨⟨m.prefix_⟩⟩, .int .i64 m.plen, .int .i64 m.tag, .string ⟨⟨m.next⟩⟩, .int .i64 m.metric, .string ⟨⟨m.id⟩⟩, .int .i64 m.seq, .int .i64 m.seq2, .int .i64 m.interval, .int .i64 m.flags, .int .i64 m.hops, .int .i64 m.nonce, .int .i64 m.cost, .string ⟨⟨m.addr⟩⟩, .string ⟨⟨m.orig⟩⟩, vl, .int .i64 m.type_, .string ⟨⟨m.data⟩⟩, vs]
structure IntsM (m : XMsg) : Prop where
  kind : -9223372036854775808 ≤ m.kind ∧ m.kind ≤ 9223372036854775807
  cmd : -9223372036854775808 ≤ m.cmd ∧ m.cmd ≤ 9223372036854775807
  ver : -9223372036854775808 ≤ m.ver ∧ m.ver ≤ 9223372036854775807
  family : -9223372036854775808 ≤ m.family ∧ m.family ≤ 9223372036854775807
  ae : -9223372036854775808 ≤ m.ae ∧ m.ae ≤ 9223372036854775807
  plen : -9223372036854775808 ≤ m.plen ∧ m.plen ≤ 9223372036854775807
  tag : -9223372036854775808 ≤ m.tag ∧ m.tag ≤ 9223372036854775807
  metric : -9223372036854775808 ≤ m.metric ∧ m.metric ≤ 9223372036854775807
  seq : -9223372036854775808 ≤ m.seq ∧ m.seq ≤ 9223372036854775807
  seq2 : -9223372036854775808 ≤ m.seq2 ∧ m.seq2 ≤ 9223372036854775807
  interval : -9223372036854775808 ≤ m.interval ∧ m.interval ≤ 9223372036854775807
  flags : -9223372036854775808 ≤ m.flags ∧ m.flags ≤ 9223372036854775807
  hops : -9223372036854775808 ≤ m.hops ∧ m.hops ≤ 9223372036854775807
  nonce : -9223372036854775808 ≤ m.nonce ∧ m.nonce ≤ 9223372036854775807
  cost : -9223372036854775808 ≤ m.cost ∧ m.cost ≤ 9223372036854775807
  type_ : -9223372036854775808 ≤ m.type_ ∧ m.type_ ≤ 9223372036854775807
  list : ∀ d ∈ m.list, -9223372036854775808 ≤ d.seq ∧ d.seq ≤ 9223372036854775807
  subs : ∀ d ∈ m.subs, -9223372036854775808 ≤ d.type_ ∧ d.type_ ≤ 9223372036854775807
def okF (m : XMsg) : Nat → Prop
  | 0 => rng m.cmd
  | 1 => rng m.ver
  | 2 => True
  | 3 => rng m.family
  | 4 => rng m.ae
  | 5 => True
  | 6 => rng m.plen
  | 7 => rng m.tag
  | 8 => True
  | 9 => rng m.metric
  | 10 => True
  | 11 => rng m.seq
  | 12 => rng m.seq2
  | 13 => rng m.interval
  | 14 => rng m.flags
  | 15 => rng m.hops
  | 16 => rng m.nonce
  | 17 => rng m.cost
  | 18 => True
  | 19 => True
  | 20 => ∀ d ∈ m.list, rng d.seq
  | 21 => rng m.type_
  | 22 => True
  | 23 => ∀ d ∈ m.subs, rng d.type_
  | _ => True
theorem nums_okF {m : XMsg} : Nums m ↔ ∀ k, k < 24 → okF m k := by
  constructor
  · intro h k hk
    match k, hk with
    | 0, _ => exact h.cmd
    | 1, _ => exact h.ver
    | 2, _ => exact trivial
    | 3, _ => exact h.family
    | 4, _ => exact h.ae
    | 5, _ => exact trivial
    | 6, _ => exact h.plen
    | 7, _ => exact h.tag
    | 8, _ => exact trivial
    | 9, _ => exact h.metric
    | 10, _ => exact trivial
    | 11, _ => exact h.seq
    | 12, _ => exact h.seq2
    | 13, _ => exact h.interval
    | 14, _ => exact h.flags
    | 15, _ => exact h.hops
    | 16, _ => exact h.nonce
    | 17, _ => exact h.cost
    | 18, _ => exact trivial
    | 19, _ => exact trivial
    | 20, _ => exact h.list
    | 21, _ => exact h.type_
    | 22, _ => exact trivial
    | 23, _ => exact h.subs
    | k + 24, hk => exact absurd hk (by omega)
  · intro h
    exact ⟨h 0 (by decide), h 1 (by decide), h 3 (by decide), h 4 (by decide), h 6 (by decide), h 7 (by decide), h 9 (by decide), h 11 (by decide), h 12 (by decide), h 13 (by decide), h 14 (by decide), h 15 (by decide), h 16 (by decide), h 17 (by decide), h 21 (by decide), h 20 (by decide), h 23 (by decide)⟩
structure MsgAt (w : World) (b : Nat) (m : XMsg) (vl vs : Value) : Prop where
  box : w.heap[b]? = some (.cells (mcells m vl vs) 25 (0, 0))
  list : ListAt w vl (m.list.map dCells)
  subs : ListAt w vs (m.subs.map sCells)
theorem MsgAt.lt {w : World} {b : Nat} {m : XMsg} {vl vs : Value} (h : MsgAt w b m vl vs) : b < w.heap.size := (Array.getElem?_eq_some_iff.1 h.box).1
theorem MsgAt.cell {w : World} {b : Nat} {m : XMsg} {vl vs : Value} (h : MsgAt w b m vl vs) (o : Nat) : w.cell? ⟨b, o, none⟩ = (mcells m vl vs)[o]? := Lib.cell_of_heap h.box o
def FPost (w : World) (ok : Prop) (s : List UInt8) (e : Ending) (w' : World) : Prop := ((ok ∧ e = .returned (.tuple #[.string ⟨⟨s⟩⟩, .bool true])) ∨ (¬ ok ∧ ∃ t, e = .returned (.tuple #[.string t, .bool false]))) ∧ Below w.heap.size w w'
theorem pf_num {m : XMsg} {b o : Nat} {wd : ByteArray} {w : World} {wl : List UInt8} (g : XMsg → Int) (p : XMsg → Int → XMsg) (hr : -9223372036854775808 ≤ g m ∧ g m ≤ 9223372036854775807) (hb : b < w.heap.size) (hc : w.cell? ⟨b, o, none⟩ = some (.int .i64 (g m))) (henv : envW w) (hw : 4 ≤ w.heap.size) :
    Calls Tryd.prog 19 #[.agg #[.string wd, .pointer (some ⟨b, o, none⟩), .pointer none, .pointer none, .pointer none]] w (FPost w (rng (g m)) ((numF wl g p).get m)) := by
  by_cases h0 : g m = 0
  · rw [h0] at hc
    refine (Tryd.print_num0 b o wd w hb hc).mono fun e w' ⟨he, hb'⟩ => ⟨.inl ⟨by rw [h0]; exact ⟨by decide, by decide⟩, ?_⟩, hb'⟩
    rw [he, show (numF wl g p).get m = [] from if_pos h0]
  · refine (Tryd.print_num b o wd (g m) w hr.1 hr.2 h0 hb hc henv hw).mono fun e w' ⟨he, hb'⟩ => ⟨?_, hb'⟩
    cases hf : farB (g m) with
    | true =>
      rw [hf] at he
      exact .inr ⟨fun h => (by rw [farB_rng.2 h] at hf; cases hf), _, he⟩
    | false =>
      have hg := farB_rng.1 hf
      rw [hf] at he
      refine .inl ⟨hg, ?_⟩
      rw [he, show (numF wl g p).get m = decT (g m).toNat from if_neg h0, itoa_dec hg]; rfl
theorem pf_text {m : XMsg} {b o : Nat} {wd : ByteArray} {w : World} {wl : List UInt8} (g : XMsg → List UInt8) (p : XMsg → List UInt8 → XMsg) (hs : (g m).length ≤ 1000000) (hb : b < w.heap.size) (hc : w.cell? ⟨b, o, none⟩ = some (.string ⟨⟨g m⟩⟩)) (henv : envW w) (hw : 4 ≤ w.heap.size) :
    Calls Tryd.prog 19 #[.agg #[.string wd, .pointer none, .pointer (some ⟨b, o, none⟩), .pointer none, .pointer none]] w (FPost w True ((textF wl g p).get m)) :=
  (Tryd.print_text b o wd (g m) w hs hb hc henv hw).mono fun e w' ⟨he, hb'⟩ => ⟨.inl ⟨trivial, he⟩, hb'⟩
theorem pf_list {m : XMsg} {b o : Nat} {wd : ByteArray} {w : World} {wl : List UInt8} {v : Value} (g : XMsg → List S_api_Dest) (p : XMsg → List S_api_Dest → XMsg) (hl : (g m).length ≤ 1000) (ha : ∀ d ∈ g m, d.addr.length ≤ 100000 ∧ -9223372036854775808 ≤ d.seq ∧ d.seq ≤ 9223372036854775807) (hv : ListAt w v ((g m).map dCells)) (hb : b < w.heap.size) (hc : w.cell? ⟨b, o, none⟩ = some v) (henv : envW w) (hw : 4 ≤ w.heap.size) :
    Calls Tryd.prog 19 #[.agg #[.string wd, .pointer none, .pointer none, .pointer (some ⟨b, o, none⟩), .pointer none]] w (FPost w (∀ d ∈ g m, rng d.seq) ((listFd wl g p).get m)) := by
  have nil : g m = [] → (v = .slice none 0 0 ∨ ∃ p cap, v = .slice (some p) 0 cap) → Calls Tryd.prog 19 #[.agg #[.string wd, .pointer none, .pointer none, .pointer (some ⟨b, o, none⟩), .pointer none]] w (FPost w (∀ d ∈ g m, rng d.seq) ((listFd wl g p).get m)) := fun h0 hv =>
    (Tryd.print_list_nil b o wd v w hb hc hv).mono fun e w' ⟨he, hb'⟩ => ⟨.inl ⟨by rw [h0]; simp, by rw [he, show (listFd wl g p).get m = listT ((g m).map dTo) from rfl, h0]; rfl⟩, hb'⟩
  rcases hv with ⟨h0, hv⟩ | ⟨h0, hv⟩ | ⟨gb, off, cap, hv, hcap, hr⟩
  · exact nil (List.map_eq_nil_iff.1 h0) (.inl hv)
  · exact nil (List.map_eq_nil_iff.1 h0) (.inr hv)
  · rw [List.length_map] at hv hcap
    by_cases h0 : 0 < (g m).length
    · rw [hv] at hc
      refine (Tryd.print_list_row b o wd (g m) gb off cap w hb hc hcap hr h0 hl ha henv hw).mono fun e w' ⟨he, hb'⟩ => ⟨?_, hb'⟩
      exact he.imp (fun h => h) (fun h => ⟨h.1, _, h.2⟩)
    · have h1 : (g m).length = 0 := by omega
      rw [h1] at hv
      exact nil (List.length_eq_zero_iff.1 h1) (.inr ⟨_, _, hv⟩)
theorem pf_subs {m : XMsg} {b o : Nat} {wd : ByteArray} {w : World} {wl : List UInt8} {v : Value} (g : XMsg → List S_api_Sub) (p : XMsg → List S_api_Sub → XMsg) (hl : (g m).length ≤ 1000) (ha : ∀ d ∈ g m, d.data.length ≤ 100000 ∧ -9223372036854775808 ≤ d.type_ ∧ d.type_ ≤ 9223372036854775807) (hv : ListAt w v ((g m).map sCells)) (hb : b < w.heap.size) (hc : w.cell? ⟨b, o, none⟩ = some v) (henv : envW w) (hw : 4 ≤ w.heap.size) :
    Calls Tryd.prog 19 #[.agg #[.string wd, .pointer none, .pointer none, .pointer none, .pointer (some ⟨b, o, none⟩)]] w (FPost w (∀ d ∈ g m, rng d.type_) ((subsFd wl g p).get m)) := by
  have nil : g m = [] → (v = .slice none 0 0 ∨ ∃ p cap, v = .slice (some p) 0 cap) → Calls Tryd.prog 19 #[.agg #[.string wd, .pointer none, .pointer none, .pointer none, .pointer (some ⟨b, o, none⟩)]] w (FPost w (∀ d ∈ g m, rng d.type_) ((subsFd wl g p).get m)) := fun h0 hv =>
    (Tryd.print_subs_nil b o wd v w hb hc hv).mono fun e w' ⟨he, hb'⟩ => ⟨.inl ⟨by rw [h0]; simp, by rw [he, show (subsFd wl g p).get m = subsT ((g m).map sTo) from rfl, h0]; rfl⟩, hb'⟩
  rcases hv with ⟨h0, hv⟩ | ⟨h0, hv⟩ | ⟨gb, off, cap, hv, hcap, hr⟩
  · exact nil (List.map_eq_nil_iff.1 h0) (.inl hv)
  · exact nil (List.map_eq_nil_iff.1 h0) (.inr hv)
  · rw [List.length_map] at hv hcap
    by_cases h0 : 0 < (g m).length
    · rw [hv] at hc
      refine (Tryd.print_subs_row b o wd (g m) gb off cap w hb hc hcap hr h0 hl ha henv hw).mono fun e w' ⟨he, hb'⟩ => ⟨?_, hb'⟩
      exact he.imp (fun h => h) (fun h => ⟨h.1, _, h.2⟩)
    · have h1 : (g m).length = 0 := by omega
      rw [h1] at hv
      exact nil (List.length_eq_zero_iff.1 h1) (.inr ⟨_, _, hv⟩)
structure FieldIs (b : Nat) (k : Nat) (wd : List UInt8) (p1 p2 p3 p4 : Option Addr) : Prop where
  c0 : (frow b)[k * 5]? = some (.string ⟨⟨wd⟩⟩)
  c1 : (frow b)[k * 5 + 1]? = some (.pointer p1)
  c2 : (frow b)[k * 5 + 2]? = some (.pointer p2)
  c3 : (frow b)[k * 5 + 3]? = some (.pointer p3)
  c4 : (frow b)[k * 5 + 4]? = some (.pointer p4)
theorem field_prints (k : Nat) (hk : k < 24) (b : Nat) : ∃ (wd : List UInt8) (p1 p2 p3 p4 : Option Addr) (f : TFd XMsg), FieldIs b k wd p1 p2 p3 p4 ∧ fsM[k]? = some f ∧ f.w = wd ∧ wd.length ≤ 10 ∧
    ∀ (w : World) (m : XMsg) (vl vs : Value), MsgAt w b m vl vs → IntsM m → SmallM m → envW w → 4 ≤ w.heap.size →
      Calls Tryd.prog 19 #[.agg #[.string ⟨⟨wd⟩⟩, .pointer p1, .pointer p2, .pointer p3, .pointer p4]] w (FPost w (okF m k) (f.get m)) := by
  match k, hk with
  | 0, _ => exact ⟨fd_cmd.w, some ⟨b, 1, none⟩, none, none, none, fd_cmd, ⟨rfl, rfl, rfl, rfl, rfl⟩, rfl, rfl, by decide, fun w m vl vs hM hi hs he hw => pf_num (wl := fd_cmd.w) (fun m => m.cmd) _ hi.cmd hM.lt ((hM.cell 1).trans rfl) he hw⟩
  | 1, _ => exact ⟨fd_ver.w, some ⟨b, 2, none⟩, none, none, none, fd_ver, ⟨rfl, rfl, rfl, rfl, rfl⟩, rfl, rfl, by decide, fun w m vl vs hM hi hs he hw => pf_num (wl := fd_ver.w) (fun m => m.ver) _ hi.ver hM.lt ((hM.cell 2).trans rfl) he hw⟩
  | 2, _ => exact ⟨fd_auth.w, none, some ⟨b, 3, none⟩, none, none, fd_auth, ⟨rfl, rfl, rfl, rfl, rfl⟩, rfl, rfl, by decide, fun w m vl vs hM hi hs he hw => pf_text (wl := fd_auth.w) (fun m => m.auth) _ (by have := hs.auth; omega) hM.lt ((hM.cell 3).trans rfl) he hw⟩
  | 3, _ => exact ⟨fd_family.w, some ⟨b, 4, none⟩, none, none, none, fd_family, ⟨rfl, rfl, rfl, rfl, rfl⟩, rfl, rfl, by decide, fun w m vl vs hM hi hs he hw => pf_num (wl := fd_family.w) (fun m => m.family) _ hi.family hM.lt ((hM.cell 4).trans rfl) he hw⟩
  | 4, _ => exact ⟨fd_ae.w, some ⟨b, 5, none⟩, none, none, none, fd_ae, ⟨rfl, rfl, rfl, rfl, rfl⟩, rfl, rfl, by decide, fun w m vl vs hM hi hs he hw => pf_num (wl := fd_ae.w) (fun m => m.ae) _ hi.ae hM.lt ((hM.cell 5).trans rfl) he hw⟩
  | 5, _ => exact ⟨fd_prefix_.w, none, some ⟨b, 6, none⟩, none, none, fd_prefix_, ⟨rfl, rfl, rfl, rfl, rfl⟩, rfl, rfl, by decide, fun w m vl vs hM hi hs he hw => pf_text (wl := fd_prefix_.w) (fun m => m.prefix_) _ (by have := hs.prefix_; omega) hM.lt ((hM.cell 6).trans rfl) he hw⟩
  | 6, _ => exact ⟨fd_plen.w, some ⟨b, 7, none⟩, none, none, none, fd_plen, ⟨rfl, rfl, rfl, rfl, rfl⟩, rfl, rfl, by decide, fun w m vl vs hM hi hs he hw => pf_num (wl := fd_plen.w) (fun m => m.plen) _ hi.plen hM.lt ((hM.cell 7).trans rfl) he hw⟩
  | 7, _ => exact ⟨fd_tag.w, some ⟨b, 8, none⟩, none, none, none, fd_tag, ⟨rfl, rfl, rfl, rfl, rfl⟩, rfl, rfl, by decide, fun w m vl vs hM hi hs he hw => pf_num (wl := fd_tag.w) (fun m => m.tag) _ hi.tag hM.lt ((hM.cell 8).trans rfl) he hw⟩
  | 8, _ => exact ⟨fd_next.w, none, some ⟨b, 9, none⟩, none, none, fd_next, ⟨rfl, rfl, rfl, rfl, rfl⟩, rfl, rfl, by decide, fun w m vl vs hM hi hs he hw => pf_text (wl := fd_next.w) (fun m => m.next) _ (by have := hs.next; omega) hM.lt ((hM.cell 9).trans rfl) he hw⟩
  | 9, _ => exact ⟨fd_metric.w, some ⟨b, 10, none⟩, none, none, none, fd_metric, ⟨rfl, rfl, rfl, rfl, rfl⟩, rfl, rfl, by decide, fun w m vl vs hM hi hs he hw => pf_num (wl := fd_metric.w) (fun m => m.metric) _ hi.metric hM.lt ((hM.cell 10).trans rfl) he hw⟩
  | 10, _ => exact ⟨fd_id.w, none, some ⟨b, 11, none⟩, none, none, fd_id, ⟨rfl, rfl, rfl, rfl, rfl⟩, rfl, rfl, by decide, fun w m vl vs hM hi hs he hw => pf_text (wl := fd_id.w) (fun m => m.id) _ (by have := hs.id; omega) hM.lt ((hM.cell 11).trans rfl) he hw⟩
  | 11, _ => exact ⟨fd_seq.w, some ⟨b, 12, none⟩, none, none, none, fd_seq, ⟨rfl, rfl, rfl, rfl, rfl⟩, rfl, rfl, by decide, fun w m vl vs hM hi hs he hw => pf_num (wl := fd_seq.w) (fun m => m.seq) _ hi.seq hM.lt ((hM.cell 12).trans rfl) he hw⟩
  | 12, _ => exact ⟨fd_seq2.w, some ⟨b, 13, none⟩, none, none, none, fd_seq2, ⟨rfl, rfl, rfl, rfl, rfl⟩, rfl, rfl, by decide, fun w m vl vs hM hi hs he hw => pf_num (wl := fd_seq2.w) (fun m => m.seq2) _ hi.seq2 hM.lt ((hM.cell 13).trans rfl) he hw⟩
  | 13, _ => exact ⟨fd_interval.w, some ⟨b, 14, none⟩, none, none, none, fd_interval, ⟨rfl, rfl, rfl, rfl, rfl⟩, rfl, rfl, by decide, fun w m vl vs hM hi hs he hw => pf_num (wl := fd_interval.w) (fun m => m.interval) _ hi.interval hM.lt ((hM.cell 14).trans rfl) he hw⟩
  | 14, _ => exact ⟨fd_flags.w, some ⟨b, 15, none⟩, none, none, none, fd_flags, ⟨rfl, rfl, rfl, rfl, rfl⟩, rfl, rfl, by decide, fun w m vl vs hM hi hs he hw => pf_num (wl := fd_flags.w) (fun m => m.flags) _ hi.flags hM.lt ((hM.cell 15).trans rfl) he hw⟩
  | 15, _ => exact ⟨fd_hops.w, some ⟨b, 16, none⟩, none, none, none, fd_hops, ⟨rfl, rfl, rfl, rfl, rfl⟩, rfl, rfl, by decide, fun w m vl vs hM hi hs he hw => pf_num (wl := fd_hops.w) (fun m => m.hops) _ hi.hops hM.lt ((hM.cell 16).trans rfl) he hw⟩
  | 16, _ => exact ⟨fd_nonce.w, some ⟨b, 17, none⟩, none, none, none, fd_nonce, ⟨rfl, rfl, rfl, rfl, rfl⟩, rfl, rfl, by decide, fun w m vl vs hM hi hs he hw => pf_num (wl := fd_nonce.w) (fun m => m.nonce) _ hi.nonce hM.lt ((hM.cell 17).trans rfl) he hw⟩
  | 17, _ => exact ⟨fd_cost.w, some ⟨b, 18, none⟩, none, none, none, fd_cost, ⟨rfl, rfl, rfl, rfl, rfl⟩, rfl, rfl, by decide, fun w m vl vs hM hi hs he hw => pf_num (wl := fd_cost.w) (fun m => m.cost) _ hi.cost hM.lt ((hM.cell 18).trans rfl) he hw⟩
  | 18, _ => exact ⟨fd_addr.w, none, some ⟨b, 19, none⟩, none, none, fd_addr, ⟨rfl, rfl, rfl, rfl, rfl⟩, rfl, rfl, by decide, fun w m vl vs hM hi hs he hw => pf_text (wl := fd_addr.w) (fun m => m.addr) _ (by have := hs.addr; omega) hM.lt ((hM.cell 19).trans rfl) he hw⟩
  | 19, _ => exact ⟨fd_orig.w, none, some ⟨b, 20, none⟩, none, none, fd_orig, ⟨rfl, rfl, rfl, rfl, rfl⟩, rfl, rfl, by decide, fun w m vl vs hM hi hs he hw => pf_text (wl := fd_orig.w) (fun m => m.orig) _ (by have := hs.orig; omega) hM.lt ((hM.cell 20).trans rfl) he hw⟩
  | 20, _ => exact ⟨fd_list.w, none, none, some ⟨b, 21, none⟩, none, fd_list, ⟨rfl, rfl, rfl, rfl, rfl⟩, rfl, rfl, by decide, fun w m vl vs hM hi hs he hw => pf_list (wl := fd_list.w) (fun m => m.list) _ hs.list.1 (fun d hd => ⟨hs.list.2 d hd, hi.list d hd⟩) hM.list hM.lt ((hM.cell 21).trans rfl) he hw⟩
  | 21, _ => exact ⟨fd_type_.w, some ⟨b, 22, none⟩, none, none, none, fd_type_, ⟨rfl, rfl, rfl, rfl, rfl⟩, rfl, rfl, by decide, fun w m vl vs hM hi hs he hw => pf_num (wl := fd_type_.w) (fun m => m.type_) _ hi.type_ hM.lt ((hM.cell 22).trans rfl) he hw⟩
  | 22, _ => exact ⟨fd_data.w, none, some ⟨b, 23, none⟩, none, none, fd_data, ⟨rfl, rfl, rfl, rfl, rfl⟩, rfl, rfl, by decide, fun w m vl vs hM hi hs he hw => pf_text (wl := fd_data.w) (fun m => m.data) _ (by have := hs.data; omega) hM.lt ((hM.cell 23).trans rfl) he hw⟩
  | 23, _ => exact ⟨fd_subs.w, none, none, none, some ⟨b, 24, none⟩, fd_subs, ⟨rfl, rfl, rfl, rfl, rfl⟩, rfl, rfl, by decide, fun w m vl vs hM hi hs he hw => pf_subs (wl := fd_subs.w) (fun m => m.subs) _ hs.subs.1 (fun d hd => ⟨hs.subs.2 d hd, hi.subs d hd⟩) hM.subs hM.lt ((hM.cell 24).trans rfl) he hw⟩
  | k + 24, hk => exact absurd hk (by omega)
end Go.Proofs
