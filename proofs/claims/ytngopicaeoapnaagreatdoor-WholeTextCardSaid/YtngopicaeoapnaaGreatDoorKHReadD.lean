import Derived.Test.YtngopicaeoapnaaGreatDoorKHReadC
import Derived.Test.YtngopicaeoapnaaGreatDoorKHPrintE
set_option linter.unusedVariables false
set_option linter.unusedSimpArgs false
set_option maxRecDepth 100000
namespace Go.Proofs
open Go.RowKit Go.Sort Go.Lib
open Go.VI
def df1 (l : List ac1) : List Value := l.flatMap fun d => [.string ⟨⟨d.addr⟩⟩, .int .i64 d.seq]
def df2 (l : List aa8) : List Value := l.flatMap fun d => [.int .i64 d.type_, .string ⟨⟨d.data⟩⟩]
structure aP2 (B : Nat) (w : World) (b : Nat) (m : aa2) (vl vs : Value) : Prop where
  box : w.heap[b]? = some (.cells (ae2 m vl vs) 33 (0, 0))
  list : w.ownsRow B 73 2 vl m.list.length (df1 m.list)
  subs : w.ownsRow B 75 2 vs m.subs.length (df2 m.subs)
theorem bg5 {B : Nat} {e : TypeId} {sz : Nat} {v : Value} {n : Nat} {xs : List Value} {w w' : World} {b : Nat} {us : Array Value} {T : TypeId} {fz : Nat × Nat} (h : w.ownsRow B e sz v n xs) (hb : w.heap[b]? = some (.cells us T fz)) (hT : T ≠ e) (hw : But b w w') : w'.ownsRow B e sz v n xs := by
  refine ⟨h.1, ?_⟩
  rcases h.2 with hn | ⟨g, cap, cur, hv, hbg, hg, rest⟩
  · exact .inl hn
  · refine .inr ⟨g, cap, cur, hv, hbg, (hw.block g (Array.getElem?_eq_some_iff.1 hg).1 (fun e => ?_)).trans hg, rest⟩
    rw [e, hb] at hg; injection hg with hg; injection hg with _ hg _; exact hT hg
theorem dU1 {B B' : Nat} {e : TypeId} {sz : Nat} {v : Value} {n : Nat} {xs : List Value} {w : World} (h : w.ownsRow B' e sz v n xs) (hB : B ≤ B') : w.ownsRow B e sz v n xs :=
  ⟨h.1, h.2.imp id fun ⟨g, cap, cur, hv, hbg, rest⟩ => ⟨g, cap, cur, hv, Nat.le_trans hB hbg, rest⟩⟩
theorem aP2.but {B b : Nat} {w w' : World} {m m' : aa2} {vl vs : Value} (h : aP2 B w b m vl vs) (hw : But b w w') (hbox : w'.heap[b]? = some (.cells (ae2 m' vl vs) 33 (0, 0))) (hl : m'.list = m.list) (hs : m'.subs = m.subs) : aP2 B w' b m' vl vs :=
  ⟨hbox, by rw [hl]; exact bg5 h.list h.box (by decide) hw, by rw [hs]; exact bg5 h.subs h.box (by decide) hw⟩
theorem aP2.lt {B b : Nat} {w : World} {m : aa2} {vl vs : Value} (h : aP2 B w b m vl vs) : b < w.heap.size := (Array.getElem?_eq_some_iff.1 h.box).1
abbrev au6 : Value := .slice none 0 0
def dp6 (B b k : Nat) (w : World) (m : aa2) (r : Option aa2) (e : Ending) (w' : World) : Prop :=
  But b w w' ∧ ((∃ m' vl vs, r = some m' ∧ e = .returned (.bool true) ∧ aP2 B w' b m' vl vs ∧ m'.kind = m.kind ∧ (k + 1 ≤ 20 → m'.list = [] ∧ vl = au6) ∧ (k + 1 ≤ 23 → m'.subs = [] ∧ vs = au6)) ∨ (r = none ∧ e = .returned (.bool false)))
theorem ay2 {B b k o : Nat} {wd : ByteArray} {wl s : List UInt8} {m : aa2} {vl vs : Value} {w : World} (g : aa2 → Int) (p : aa2 → Int → aa2) (x : Value) (hM : aP2 B w b m vl vs) (hx : (ae2 m vl vs)[o]? = some x) (hset : ∀ v, (ae2 m vl vs).setIfInBounds o (.int .i64 v) = ae2 (p m v) vl vs)
    (hpl : ∀ v, (p m v).list = m.list) (hps : ∀ v, (p m v).subs = m.subs) (hpk : ∀ v, (p m v).kind = m.kind) (hl : k ≤ 20 → m.list = [] ∧ vl = au6) (hsb : k ≤ 23 → m.subs = [] ∧ vs = au6) (hs : s.length ≤ 1000000) (henv : envW w) (hw : 4 ≤ w.heap.size) :
    Calls Tryz.prog 22 #[.agg #[.string wd, .pointer (some ⟨b, o, none⟩), .pointer none, .pointer none, .pointer none], .string ⟨⟨s⟩⟩] w (dp6 B b k w m ((am0 wl g p).put s m)) := by
  refine (Tryz.read_num b o wd s x w hs hM.lt ((Lib.cell_of_heap hM.box o).trans hx) (Lib.frozen_of_heap hM.box o) henv hw).mono fun e w' ⟨he, w1, hb1, hw'⟩ => ?_
  have hbut : But b w w' := by rw [hw']; exact (But.of hb1).trans (But.set _)
  have hbox : w'.heap[b]? = some (.cells (ae2 (p m (ao8 s).1) vl vs) 33 (0, 0)) := by
    rw [hw', ← hset]; exact aC1 _ ((hb1.block b hM.lt).trans hM.box)
  have hM' : aP2 B w' b (p m (ao8 s).1) vl vs := hM.but hbut hbox (hpl _) (hps _)
  refine ⟨hbut, ?_⟩
  have hput : (am0 wl g p).put s m = match al1 s with | some v => if v = 0 then none else some (p m (v : Int)) | none => none := rfl
  rw [hput]
  unfold ao8 at he hM'
  cases hn : al1 s with
  | none => rw [hn] at he; exact .inr ⟨rfl, he⟩
  | some v =>
    rw [hn] at he hM'
    dsimp only at he hM' ⊢
    by_cases h0 : v = 0
    · subst h0
      rw [if_pos rfl]
      exact .inr ⟨rfl, he⟩
    · rw [if_neg h0]
      refine .inl ⟨_, vl, vs, rfl, ?_, hM', hpk _, fun h => ?_, fun h => ?_⟩
      · rw [he, show (true && ((v : Int) != 0)) = true by simp; omega]
      · rw [hpl]; exact hl (by omega)
      · rw [hps]; exact hsb (by omega)
theorem bw1 {B b k o : Nat} {wd : ByteArray} {wl s : List UInt8} {m : aa2} {vl vs : Value} {w : World} (g : aa2 → List UInt8) (p : aa2 → List UInt8 → aa2) (x : Value) (hM : aP2 B w b m vl vs) (hx : (ae2 m vl vs)[o]? = some x) (hset : ∀ v, (ae2 m vl vs).setIfInBounds o (.string ⟨⟨v⟩⟩) = ae2 (p m v) vl vs)
    (hpl : ∀ v, (p m v).list = m.list) (hps : ∀ v, (p m v).subs = m.subs) (hpk : ∀ v, (p m v).kind = m.kind) (hl : k ≤ 20 → m.list = [] ∧ vl = au6) (hsb : k ≤ 23 → m.subs = [] ∧ vs = au6) (hs : s.length ≤ 1000000) (henv : envW w) (hw : 4 ≤ w.heap.size) :
    Calls Tryz.prog 22 #[.agg #[.string wd, .pointer none, .pointer (some ⟨b, o, none⟩), .pointer none, .pointer none], .string ⟨⟨s⟩⟩] w (dp6 B b k w m ((aq3 wl g p).put s m)) := by
  refine (Tryz.read_text b o wd s x w hs hM.lt ((Lib.cell_of_heap hM.box o).trans hx) (Lib.frozen_of_heap hM.box o) henv hw).mono fun e w' ⟨he, w1, hb1, hw'⟩ => ?_
  have hbut : But b w w' := by rw [hw']; exact (But.of hb1).trans (But.set _)
  have hbox : w'.heap[b]? = some (.cells (ae2 (p m (Go.VP.bytesE s).1) vl vs) 33 (0, 0)) := by
    rw [hw', ← hset]; exact aC1 _ ((hb1.block b hM.lt).trans hM.box)
  have hM' : aP2 B w' b (p m (Go.VP.bytesE s).1) vl vs := hM.but hbut hbox (hpl _) (hps _)
  refine ⟨hbut, ?_⟩
  have hput : (aq3 wl g p).put s m = if s = [] then none else (aj8 s).map (p m) := rfl
  rw [hput]
  unfold Go.VP.bytesE at he hM'
  by_cases h0 : s = []
  · rw [if_pos h0]; rw [h0] at he; exact .inr ⟨rfl, he⟩
  · rw [if_neg h0]
    have h1 : s.isEmpty = false := by simpa using h0
    rw [h1] at he
    cases hn : aj8 s with
    | none => rw [hn] at he; exact .inr ⟨rfl, he⟩
    | some v =>
      rw [hn] at he hM'
      refine .inl ⟨_, vl, vs, rfl, he, hM', hpk _, fun h => ?_, fun h => ?_⟩
      · rw [hpl]; exact hl (by omega)
      · rw [hps]; exact hsb (by omega)
theorem cv1 : ∀ (ps : List (List UInt8)), bi1 bz7 ps = if (ps.all fun p => (Go.VP.destE p).2) = true then some (ps.map fun p => dTo (Go.VP.destE p).1) else none
  | [] => rfl
  | p :: r => by
    rw [bi1, Go.VP.destE_rd, cv1 r, List.all_cons]
    cases (Go.VP.destE p).2 with
    | false => rfl
    | true =>
      cases r.all fun p => (Go.VP.destE p).2 with
      | false => rfl
      | true => rfl
theorem eE6 (p : List UInt8) : dOf (dTo (Go.VP.destE p).1) = (Go.VP.destE p).1 := by
  have h := Go.VP.numE_rng (ac4 58 p).2.1
  unfold Go.VP.destE dTo dOf
  dsimp only
  rw [Int.toNat_of_nonneg h.1]
theorem eN7 {B b : Nat} {wd : ByteArray} {wl s : List UInt8} {m : aa2} {vs : Value} {w : World} (hM : aP2 B w b m au6 vs) (hl : m.list = []) (hsb : m.subs = [] ∧ vs = au6) (hs : s.length ≤ 1000000) (hB : B ≤ w.heap.size) (hb4 : 4 ≤ b) (henv : envW w) (hw : 4 ≤ w.heap.size) :
    Calls Tryz.prog 22 #[.agg #[.string wd, .pointer none, .pointer none, .pointer (some ⟨b, 21, none⟩), .pointer none], .string ⟨⟨s⟩⟩] w (dp6 B b 20 w m ((as3 wl (fun m => m.list) (fun m v => { m with list := v })).put s m)) := by
  refine (Tryz.read_list b 21 wd s (ae2 m au6 vs) w hs hM.box rfl henv hw hb4).mono fun e w' ⟨he, hbut, v, hbox, hown⟩ => ?_
  have hput : (as3 wl (fun m => m.list) (fun m v => { m with list := v })).put s m = (aR3 s).map fun l => { m with list := l.map dOf } := rfl
  have hL : ((ab8 44 s).map fun p => dTo (Go.VP.destE p).1).map dOf = (ab8 44 s).map fun p => (Go.VP.destE p).1 := by
    rw [List.map_map]; exact List.map_congr_left fun p _ => eE6 p
  have hM' : aP2 B w' b { m with list := (ab8 44 s).map fun p => (Go.VP.destE p).1 } v vs := by
    refine ⟨hbox, ?_, bg5 hM.subs hM.box (by decide) hbut⟩
    have := dU1 hown hB
    show w'.ownsRow B _ 2 v ((ab8 44 s).map fun p => (Go.VP.destE p).1).length (df1 ((ab8 44 s).map fun p => (Go.VP.destE p).1))
    rw [List.length_map, show df1 ((ab8 44 s).map fun p => (Go.VP.destE p).1) = de9 (ab8 44 s) by unfold df1 de9; rw [List.flatMap_map]]
    exact this
  refine ⟨hbut, ?_⟩
  rw [hput]
  unfold aR3
  by_cases h0 : s = []
  · rw [if_pos h0]; rw [h0] at he; exact .inr ⟨rfl, he⟩
  · rw [if_neg h0, cv1]
    have h1 : s.isEmpty = false := by simpa using h0
    rw [h1] at he
    cases ha : (ab8 44 s).all fun p => (Go.VP.destE p).2 with
    | false => rw [ha] at he; rw [if_neg (by simp)]; exact .inr ⟨rfl, he⟩
    | true =>
      rw [ha] at he
      rw [if_pos rfl]
      have hq : ({ m with list := ((ab8 44 s).map fun p => dTo (Go.VP.destE p).1).map dOf } : aa2) = { m with list := (ab8 44 s).map fun p => (Go.VP.destE p).1 } := by rw [hL]
      exact .inl ⟨_, v, vs, congrArg some hq, he, hM', rfl, fun h => by omega, fun _ => hsb⟩
theorem cO7 : ∀ (ps : List (List UInt8)), bi1 bZ3 ps = if (ps.all fun p => (Go.VP.subE p).2) = true then some (ps.map fun p => sTo (Go.VP.subE p).1) else none
  | [] => rfl
  | p :: r => by
    rw [bi1, Go.VP.subE_rd, cO7 r, List.all_cons]
    cases (Go.VP.subE p).2 with
    | false => rfl
    | true =>
      cases r.all fun p => (Go.VP.subE p).2 with
      | false => rfl
      | true => rfl
theorem eN8 (p : List UInt8) : sOf (sTo (Go.VP.subE p).1) = (Go.VP.subE p).1 := by
  have h := Go.VP.numE_rng (ac4 58 p).1
  unfold Go.VP.subE sTo sOf
  dsimp only
  rw [Int.toNat_of_nonneg h.1]
theorem eN9 {B b : Nat} {wd : ByteArray} {wl s : List UInt8} {m : aa2} {vl : Value} {w : World} (hM : aP2 B w b m vl au6) (hl : m.subs = []) (hs : s.length ≤ 1000000) (hB : B ≤ w.heap.size) (hb4 : 4 ≤ b) (henv : envW w) (hw : 4 ≤ w.heap.size) :
    Calls Tryz.prog 22 #[.agg #[.string wd, .pointer none, .pointer none, .pointer none, .pointer (some ⟨b, 24, none⟩)], .string ⟨⟨s⟩⟩] w (dp6 B b 23 w m ((as4 wl (fun m => m.subs) (fun m v => { m with subs := v })).put s m)) := by
  refine (Tryz.read_subs b 24 wd s (ae2 m vl au6) w hs hM.box rfl henv hw hb4).mono fun e w' ⟨he, hbut, v, hbox, hown⟩ => ?_
  have hput : (as4 wl (fun m => m.subs) (fun m v => { m with subs := v })).put s m = (aR4 s).map fun l => { m with subs := l.map sOf } := rfl
  have hL : ((ab8 44 s).map fun p => sTo (Go.VP.subE p).1).map sOf = (ab8 44 s).map fun p => (Go.VP.subE p).1 := by
    rw [List.map_map]; exact List.map_congr_left fun p _ => eN8 p
  have hM' : aP2 B w' b { m with subs := (ab8 44 s).map fun p => (Go.VP.subE p).1 } vl v := by
    refine ⟨hbox, bg5 hM.list hM.box (by decide) hbut, ?_⟩
    have := dU1 hown hB
    show w'.ownsRow B _ 2 v ((ab8 44 s).map fun p => (Go.VP.subE p).1).length (df2 ((ab8 44 s).map fun p => (Go.VP.subE p).1))
    rw [List.length_map, show df2 ((ab8 44 s).map fun p => (Go.VP.subE p).1) = df0 (ab8 44 s) by unfold df2 df0; rw [List.flatMap_map]]
    exact this
  refine ⟨hbut, ?_⟩
  rw [hput]
  unfold aR4
  by_cases h0 : s = []
  · rw [if_pos h0]; rw [h0] at he; exact .inr ⟨rfl, he⟩
  · rw [if_neg h0, cO7]
    have h1 : s.isEmpty = false := by simpa using h0
    rw [h1] at he
    cases ha : (ab8 44 s).all fun p => (Go.VP.subE p).2 with
    | false => rw [ha] at he; rw [if_neg (by simp)]; exact .inr ⟨rfl, he⟩
    | true =>
      rw [ha] at he
      rw [if_pos rfl]
      have hq : ({ m with subs := ((ab8 44 s).map fun p => sTo (Go.VP.subE p).1).map sOf } : aa2) = { m with subs := (ab8 44 s).map fun p => (Go.VP.subE p).1 } := by rw [hL]
      exact .inl ⟨_, vl, v, congrArg some hq, he, hM', rfl, fun h => by omega, fun h => by omega⟩
theorem ea8 (k : Nat) (hk : k < 24) (b : Nat) : ∃ (wd : List UInt8) (p1 p2 p3 p4 : Option Addr) (f : TFd aa2), ee3 b k wd p1 p2 p3 p4 ∧ fsM[k]? = some f ∧ f.w = wd ∧ wd.length ≤ 10 ∧
    ∀ (B : Nat) (w : World) (m : aa2) (vl vs : Value) (s : List UInt8), aP2 B w b m vl vs → (k ≤ 20 → m.list = [] ∧ vl = au6) → (k ≤ 23 → m.subs = [] ∧ vs = au6) → s.length ≤ 1000000 → B ≤ w.heap.size → 4 ≤ b → envW w → 4 ≤ w.heap.size →
      Calls Tryz.prog 22 #[.agg #[.string ⟨⟨wd⟩⟩, .pointer p1, .pointer p2, .pointer p3, .pointer p4], .string ⟨⟨s⟩⟩] w (dp6 B b k w m (f.put s m)) := by
  match k, hk with
  | 0, _ => exact ⟨aL2.w, some ⟨b, 1, none⟩, none, none, none, aL2, ⟨rfl, rfl, rfl, rfl, rfl⟩, rfl, rfl, by decide, fun B w m vl vs s hM hl hs hn hB hb4 he hw => ay2 (wl := aL2.w) (fun m => m.cmd) (fun m v => { m with cmd := v }) _ hM rfl (fun _ => rfl) (fun _ => rfl) (fun _ => rfl) (fun _ => rfl) hl hs hn he hw⟩
  | 1, _ => exact ⟨aL3.w, some ⟨b, 2, none⟩, none, none, none, aL3, ⟨rfl, rfl, rfl, rfl, rfl⟩, rfl, rfl, by decide, fun B w m vl vs s hM hl hs hn hB hb4 he hw => ay2 (wl := aL3.w) (fun m => m.ver) (fun m v => { m with ver := v }) _ hM rfl (fun _ => rfl) (fun _ => rfl) (fun _ => rfl) (fun _ => rfl) hl hs hn he hw⟩
  | 2, _ => exact ⟨az8.w, none, some ⟨b, 3, none⟩, none, none, az8, ⟨rfl, rfl, rfl, rfl, rfl⟩, rfl, rfl, by decide, fun B w m vl vs s hM hl hs hn hB hb4 he hw => bw1 (wl := az8.w) (fun m => m.auth) (fun m v => { m with auth := v }) _ hM rfl (fun _ => rfl) (fun _ => rfl) (fun _ => rfl) (fun _ => rfl) hl hs hn he hw⟩
  | 3, _ => exact ⟨aq0.w, some ⟨b, 4, none⟩, none, none, none, aq0, ⟨rfl, rfl, rfl, rfl, rfl⟩, rfl, rfl, by decide, fun B w m vl vs s hM hl hs hn hB hb4 he hw => ay2 (wl := aq0.w) (fun m => m.family) (fun m v => { m with family := v }) _ hM rfl (fun _ => rfl) (fun _ => rfl) (fun _ => rfl) (fun _ => rfl) hl hs hn he hw⟩
  | 4, _ => exact ⟨ba0.w, some ⟨b, 5, none⟩, none, none, none, ba0, ⟨rfl, rfl, rfl, rfl, rfl⟩, rfl, rfl, by decide, fun B w m vl vs s hM hl hs hn hB hb4 he hw => ay2 (wl := ba0.w) (fun m => m.ae) (fun m v => { m with ae := v }) _ hM rfl (fun _ => rfl) (fun _ => rfl) (fun _ => rfl) (fun _ => rfl) hl hs hn he hw⟩
  | 5, _ => exact ⟨an2.w, none, some ⟨b, 6, none⟩, none, none, an2, ⟨rfl, rfl, rfl, rfl, rfl⟩, rfl, rfl, by decide, fun B w m vl vs s hM hl hs hn hB hb4 he hw => bw1 (wl := an2.w) (fun m => m.prefix_) (fun m v => { m with prefix_ := v }) _ hM rfl (fun _ => rfl) (fun _ => rfl) (fun _ => rfl) (fun _ => rfl) hl hs hn he hw⟩
  | 6, _ => exact ⟨az9.w, some ⟨b, 7, none⟩, none, none, none, az9, ⟨rfl, rfl, rfl, rfl, rfl⟩, rfl, rfl, by decide, fun B w m vl vs s hM hl hs hn hB hb4 he hw => ay2 (wl := az9.w) (fun m => m.plen) (fun m v => { m with plen := v }) _ hM rfl (fun _ => rfl) (fun _ => rfl) (fun _ => rfl) (fun _ => rfl) hl hs hn he hw⟩
  | 7, _ => exact ⟨aL4.w, some ⟨b, 8, none⟩, none, none, none, aL4, ⟨rfl, rfl, rfl, rfl, rfl⟩, rfl, rfl, by decide, fun B w m vl vs s hM hl hs hn hB hb4 he hw => ay2 (wl := aL4.w) (fun m => m.tag) (fun m v => { m with tag := v }) _ hM rfl (fun _ => rfl) (fun _ => rfl) (fun _ => rfl) (fun _ => rfl) hl hs hn he hw⟩
  | 8, _ => exact ⟨aA0.w, none, some ⟨b, 9, none⟩, none, none, aA0, ⟨rfl, rfl, rfl, rfl, rfl⟩, rfl, rfl, by decide, fun B w m vl vs s hM hl hs hn hB hb4 he hw => bw1 (wl := aA0.w) (fun m => m.next) (fun m v => { m with next := v }) _ hM rfl (fun _ => rfl) (fun _ => rfl) (fun _ => rfl) (fun _ => rfl) hl hs hn he hw⟩
  | 9, _ => exact ⟨aq1.w, some ⟨b, 10, none⟩, none, none, none, aq1, ⟨rfl, rfl, rfl, rfl, rfl⟩, rfl, rfl, by decide, fun B w m vl vs s hM hl hs hn hB hb4 he hw => ay2 (wl := aq1.w) (fun m => m.metric) (fun m v => { m with metric := v }) _ hM rfl (fun _ => rfl) (fun _ => rfl) (fun _ => rfl) (fun _ => rfl) hl hs hn he hw⟩
  | 10, _ => exact ⟨ba1.w, none, some ⟨b, 11, none⟩, none, none, ba1, ⟨rfl, rfl, rfl, rfl, rfl⟩, rfl, rfl, by decide, fun B w m vl vs s hM hl hs hn hB hb4 he hw => bw1 (wl := ba1.w) (fun m => m.id) (fun m v => { m with id := v }) _ hM rfl (fun _ => rfl) (fun _ => rfl) (fun _ => rfl) (fun _ => rfl) hl hs hn he hw⟩
  | 11, _ => exact ⟨aL5.w, some ⟨b, 12, none⟩, none, none, none, aL5, ⟨rfl, rfl, rfl, rfl, rfl⟩, rfl, rfl, by decide, fun B w m vl vs s hM hl hs hn hB hb4 he hw => ay2 (wl := aL5.w) (fun m => m.seq) (fun m v => { m with seq := v }) _ hM rfl (fun _ => rfl) (fun _ => rfl) (fun _ => rfl) (fun _ => rfl) hl hs hn he hw⟩
  | 12, _ => exact ⟨aA1.w, some ⟨b, 13, none⟩, none, none, none, aA1, ⟨rfl, rfl, rfl, rfl, rfl⟩, rfl, rfl, by decide, fun B w m vl vs s hM hl hs hn hB hb4 he hw => ay2 (wl := aA1.w) (fun m => m.seq2) (fun m v => { m with seq2 := v }) _ hM rfl (fun _ => rfl) (fun _ => rfl) (fun _ => rfl) (fun _ => rfl) hl hs hn he hw⟩
  | 13, _ => exact ⟨al4.w, some ⟨b, 14, none⟩, none, none, none, al4, ⟨rfl, rfl, rfl, rfl, rfl⟩, rfl, rfl, by decide, fun B w m vl vs s hM hl hs hn hB hb4 he hw => ay2 (wl := al4.w) (fun m => m.interval) (fun m v => { m with interval := v }) _ hM rfl (fun _ => rfl) (fun _ => rfl) (fun _ => rfl) (fun _ => rfl) hl hs hn he hw⟩
  | 14, _ => exact ⟨au1.w, some ⟨b, 15, none⟩, none, none, none, au1, ⟨rfl, rfl, rfl, rfl, rfl⟩, rfl, rfl, by decide, fun B w m vl vs s hM hl hs hn hB hb4 he hw => ay2 (wl := au1.w) (fun m => m.flags) (fun m v => { m with flags := v }) _ hM rfl (fun _ => rfl) (fun _ => rfl) (fun _ => rfl) (fun _ => rfl) hl hs hn he hw⟩
  | 15, _ => exact ⟨aA2.w, some ⟨b, 16, none⟩, none, none, none, aA2, ⟨rfl, rfl, rfl, rfl, rfl⟩, rfl, rfl, by decide, fun B w m vl vs s hM hl hs hn hB hb4 he hw => ay2 (wl := aA2.w) (fun m => m.hops) (fun m v => { m with hops := v }) _ hM rfl (fun _ => rfl) (fun _ => rfl) (fun _ => rfl) (fun _ => rfl) hl hs hn he hw⟩
  | 16, _ => exact ⟨au2.w, some ⟨b, 17, none⟩, none, none, none, au2, ⟨rfl, rfl, rfl, rfl, rfl⟩, rfl, rfl, by decide, fun B w m vl vs s hM hl hs hn hB hb4 he hw => ay2 (wl := au2.w) (fun m => m.nonce) (fun m v => { m with nonce := v }) _ hM rfl (fun _ => rfl) (fun _ => rfl) (fun _ => rfl) (fun _ => rfl) hl hs hn he hw⟩
  | 17, _ => exact ⟨aA3.w, some ⟨b, 18, none⟩, none, none, none, aA3, ⟨rfl, rfl, rfl, rfl, rfl⟩, rfl, rfl, by decide, fun B w m vl vs s hM hl hs hn hB hb4 he hw => ay2 (wl := aA3.w) (fun m => m.cost) (fun m v => { m with cost := v }) _ hM rfl (fun _ => rfl) (fun _ => rfl) (fun _ => rfl) (fun _ => rfl) hl hs hn he hw⟩
  | 18, _ => exact ⟨aA4.w, none, some ⟨b, 19, none⟩, none, none, aA4, ⟨rfl, rfl, rfl, rfl, rfl⟩, rfl, rfl, by decide, fun B w m vl vs s hM hl hs hn hB hb4 he hw => bw1 (wl := aA4.w) (fun m => m.addr) (fun m v => { m with addr := v }) _ hM rfl (fun _ => rfl) (fun _ => rfl) (fun _ => rfl) (fun _ => rfl) hl hs hn he hw⟩
  | 19, _ => exact ⟨aA5.w, none, some ⟨b, 20, none⟩, none, none, aA5, ⟨rfl, rfl, rfl, rfl, rfl⟩, rfl, rfl, by decide, fun B w m vl vs s hM hl hs hn hB hb4 he hw => bw1 (wl := aA5.w) (fun m => m.orig) (fun m v => { m with orig := v }) _ hM rfl (fun _ => rfl) (fun _ => rfl) (fun _ => rfl) (fun _ => rfl) hl hs hn he hw⟩
  | 20, _ => exact ⟨aA6.w, none, none, some ⟨b, 21, none⟩, none, aA6, ⟨rfl, rfl, rfl, rfl, rfl⟩, rfl, rfl, by decide, fun B w m vl vs s hM hl hs hn hB hb4 he hw => by obtain ⟨h1, rfl⟩ := hl (by decide); exact eN7 (wl := aA6.w) hM h1 (hs (by decide)) hn hB hb4 he hw⟩
  | 21, _ => exact ⟨au3.w, some ⟨b, 22, none⟩, none, none, none, au3, ⟨rfl, rfl, rfl, rfl, rfl⟩, rfl, rfl, by decide, fun B w m vl vs s hM hl hs hn hB hb4 he hw => ay2 (wl := au3.w) (fun m => m.type_) (fun m v => { m with type_ := v }) _ hM rfl (fun _ => rfl) (fun _ => rfl) (fun _ => rfl) (fun _ => rfl) hl hs hn he hw⟩
  | 22, _ => exact ⟨aA7.w, none, some ⟨b, 23, none⟩, none, none, aA7, ⟨rfl, rfl, rfl, rfl, rfl⟩, rfl, rfl, by decide, fun B w m vl vs s hM hl hs hn hB hb4 he hw => bw1 (wl := aA7.w) (fun m => m.data) (fun m v => { m with data := v }) _ hM rfl (fun _ => rfl) (fun _ => rfl) (fun _ => rfl) (fun _ => rfl) hl hs hn he hw⟩
  | 23, _ => exact ⟨aA8.w, none, none, none, some ⟨b, 24, none⟩, aA8, ⟨rfl, rfl, rfl, rfl, rfl⟩, rfl, rfl, by decide, fun B w m vl vs s hM hl hs hn hB hb4 he hw => by obtain ⟨h1, rfl⟩ := hs (by decide); exact eN9 (wl := aA8.w) hM h1 hn hB hb4 he hw⟩
  | k + 24, hk => exact absurd hk (by omega)
end Go.Proofs
