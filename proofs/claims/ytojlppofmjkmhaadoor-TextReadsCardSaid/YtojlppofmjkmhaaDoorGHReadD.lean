import Derived.Test.YtojlppofmjkmhaaDoorGHReadC
import Derived.Test.YtojlppofmjkmhaaDoorGHPrintE
set_option linter.unusedVariables false
set_option linter.unusedSimpArgs false
set_option maxRecDepth 100000
namespace Go.Proofs
open Go.RowKit Go.Sort Go.Lib
open Go.VI
def lRow (l : List S_api_Dest) : List Value := l.flatMap fun d => [.string ⟨⟨d.addr⟩⟩, .int .i64 d.seq]
def bRow (l : List S_api_Sub) : List Value := l.flatMap fun d => [.int .i64 d.type_, .string ⟨⟨d.data⟩⟩]
structure MsgW (B : Nat) (w : World) (b : Nat) (m : XMsg) (vl vs : Value) : Prop where
  box : w.heap[b]? = some (.cells (mcells m vl vs) 25 (0, 0))
  list : w.ownsRow B 38 2 vl m.list.length (lRow m.list)
  subs : w.ownsRow B 40 2 vs m.subs.length (bRow m.subs)
theorem own_but {B : Nat} {e : TypeId} {sz : Nat} {v : Value} {n : Nat} {xs : List Value} {w w' : World} {b : Nat} {us : Array Value} {T : TypeId} {fz : Nat × Nat} (h : w.ownsRow B e sz v n xs) (hb : w.heap[b]? = some (.cells us T fz)) (hT : T ≠ e) (hw : But b w w') : w'.ownsRow B e sz v n xs := by
  refine ⟨h.1, ?_⟩
  rcases h.2 with hn | ⟨g, cap, cur, hv, hbg, hg, rest⟩
  · exact .inl hn
  · refine .inr ⟨g, cap, cur, hv, hbg, (hw.block g (Array.getElem?_eq_some_iff.1 hg).1 (fun e => ?_)).trans hg, rest⟩
    rw [e, hb] at hg; injection hg with hg; injection hg with _ hg _; exact hT hg
theorem own_base {B B' : Nat} {e : TypeId} {sz : Nat} {v : Value} {n : Nat} {xs : List Value} {w : World} (h : w.ownsRow B' e sz v n xs) (hB : B ≤ B') : w.ownsRow B e sz v n xs :=
  ⟨h.1, h.2.imp id fun ⟨g, cap, cur, hv, hbg, rest⟩ => ⟨g, cap, cur, hv, Nat.le_trans hB hbg, rest⟩⟩
theorem MsgW.but {B b : Nat} {w w' : World} {m m' : XMsg} {vl vs : Value} (h : MsgW B w b m vl vs) (hw : But b w w') (hbox : w'.heap[b]? = some (.cells (mcells m' vl vs) 25 (0, 0))) (hl : m'.list = m.list) (hs : m'.subs = m.subs) : MsgW B w' b m' vl vs :=
  ⟨hbox, by rw [hl]; exact own_but h.list h.box (by decide) hw, by rw [hs]; exact own_but h.subs h.box (by decide) hw⟩
theorem MsgW.lt {B b : Nat} {w : World} {m : XMsg} {vl vs : Value} (h : MsgW B w b m vl vs) : b < w.heap.size := (Array.getElem?_eq_some_iff.1 h.box).1
abbrev nil0 : Value := .slice none 0 0
def RPost (B b k : Nat) (w : World) (m : XMsg) (r : Option XMsg) (e : Ending) (w' : World) : Prop :=
  But b w w' ∧ ((∃ m' vl vs, r = some m' ∧ e = .returned (.bool true) ∧ MsgW B w' b m' vl vs ∧ m'.kind = m.kind ∧ (k + 1 ≤ 20 → m'.list = [] ∧ vl = nil0) ∧ (k + 1 ≤ 23 → m'.subs = [] ∧ vs = nil0)) ∨ (r = none ∧ e = .returned (.bool false)))
theorem rf_num {B b k o : Nat} {wd : ByteArray} {wl s : List UInt8} {m : XMsg} {vl vs : Value} {w : World} (g : XMsg → Int) (p : XMsg → Int → XMsg) (x : Value) (hM : MsgW B w b m vl vs) (hx : (mcells m vl vs)[o]? = some x) (hset : ∀ v, (mcells m vl vs).setIfInBounds o (.int .i64 v) = mcells (p m v) vl vs)
    (hpl : ∀ v, (p m v).list = m.list) (hps : ∀ v, (p m v).subs = m.subs) (hpk : ∀ v, (p m v).kind = m.kind) (hl : k ≤ 20 → m.list = [] ∧ vl = nil0) (hsb : k ≤ 23 → m.subs = [] ∧ vs = nil0) (hs : s.length ≤ 1000000) (henv : envW w) (hw : 4 ≤ w.heap.size) :
    Calls Tryd.prog 31 #[.agg #[.string wd, .pointer (some ⟨b, o, none⟩), .pointer none, .pointer none, .pointer none], .string ⟨⟨s⟩⟩] w (RPost B b k w m ((numF wl g p).put s m)) := by
  refine (Tryd.read_num b o wd s x w hs hM.lt ((Lib.cell_of_heap hM.box o).trans hx) (Lib.frozen_of_heap hM.box o) henv hw).mono fun e w' ⟨he, w1, hb1, hw'⟩ => ?_
  have hbut : But b w w' := by rw [hw']; exact (But.of hb1).trans (But.set _)
  have hbox : w'.heap[b]? = some (.cells (mcells (p m (numE s).1) vl vs) 25 (0, 0)) := by
    rw [hw', ← hset]; exact set_at _ ((hb1.block b hM.lt).trans hM.box)
  have hM' : MsgW B w' b (p m (numE s).1) vl vs := hM.but hbut hbox (hpl _) (hps _)
  refine ⟨hbut, ?_⟩
  have hput : (numF wl g p).put s m = match numRd s with | some v => if v = 0 then none else some (p m (v : Int)) | none => none := rfl
  rw [hput]
  unfold numE at he hM'
  cases hn : numRd s with
  | none => rw [hn] at he; exact .inr ⟨rfl, he⟩
  | some v =>
    rw [hn] at he hM'
    dsimp only at he hM' ⊢
    by_cases h0 : v = 0
    · subst h0
      rw [if_pos rfl]
      exact .inr ⟨rfl, he⟩
    · rw [if_neg h0]
      refine .inl ⟨_, vl, vs, rfl, ?_, hM', hpk _, fun h => ?_, fun h => ?_⟩
      · rw [he, show (true && ((v : Int) != 0)) = true by simp; omega]
      · rw [hpl]; exact hl (by omega)
      · rw [hps]; exact hsb (by omega)
theorem rf_text {B b k o : Nat} {wd : ByteArray} {wl s : List UInt8} {m : XMsg} {vl vs : Value} {w : World} (g : XMsg → List UInt8) (p : XMsg → List UInt8 → XMsg) (x : Value) (hM : MsgW B w b m vl vs) (hx : (mcells m vl vs)[o]? = some x) (hset : ∀ v, (mcells m vl vs).setIfInBounds o (.string ⟨⟨v⟩⟩) = mcells (p m v) vl vs)
    (hpl : ∀ v, (p m v).list = m.list) (hps : ∀ v, (p m v).subs = m.subs) (hpk : ∀ v, (p m v).kind = m.kind) (hl : k ≤ 20 → m.list = [] ∧ vl = nil0) (hsb : k ≤ 23 → m.subs = [] ∧ vs = nil0) (hs : s.length ≤ 1000000) (henv : envW w) (hw : 4 ≤ w.heap.size) :
    Calls Tryd.prog 31 #[.agg #[.string wd, .pointer none, .pointer (some ⟨b, o, none⟩), .pointer none, .pointer none], .string ⟨⟨s⟩⟩] w (RPost B b k w m ((textF wl g p).put s m)) := by
  refine (Tryd.read_text b o wd s x w hs hM.lt ((Lib.cell_of_heap hM.box o).trans hx) (Lib.frozen_of_heap hM.box o) henv hw).mono fun e w' ⟨he, w1, hb1, hw'⟩ => ?_
  have hbut : But b w w' := by rw [hw']; exact (But.of hb1).trans (But.set _)
  have hbox : w'.heap[b]? = some (.cells (mcells (p m (Go.VP.bytesE s).1) vl vs) 25 (0, 0)) := by
    rw [hw', ← hset]; exact set_at _ ((hb1.block b hM.lt).trans hM.box)
  have hM' : MsgW B w' b (p m (Go.VP.bytesE s).1) vl vs := hM.but hbut hbox (hpl _) (hps _)
  refine ⟨hbut, ?_⟩
  have hput : (textF wl g p).put s m = if s = [] then none else (hexRd s).map (p m) := rfl
  rw [hput]
  unfold Go.VP.bytesE at he hM'
  by_cases h0 : s = []
  · rw [if_pos h0]; rw [h0] at he; exact .inr ⟨rfl, he⟩
  · rw [if_neg h0]
    have h1 : s.isEmpty = false := by simpa using h0
    rw [h1] at he
    cases hn : hexRd s with
    | none => rw [hn] at he; exact .inr ⟨rfl, he⟩
    | some v =>
      rw [hn] at he hM'
      refine .inl ⟨_, vl, vs, rfl, he, hM', hpk _, fun h => ?_, fun h => ?_⟩
      · rw [hpl]; exact hl (by omega)
      · rw [hps]; exact hsb (by omega)
theorem allRd_dest : ∀ (ps : List (List UInt8)), allRd destRd ps = if (ps.all fun p => (Go.VP.destE p).2) = true then some (ps.map fun p => dTo (Go.VP.destE p).1) else none
  | [] => rfl
  | p :: r => by
    rw [allRd, Go.VP.destE_rd, allRd_dest r, List.all_cons]
    cases (Go.VP.destE p).2 with
    | false => rfl
    | true =>
      cases r.all fun p => (Go.VP.destE p).2 with
      | false => rfl
      | true => rfl
theorem dOf_dest (p : List UInt8) : dOf (dTo (Go.VP.destE p).1) = (Go.VP.destE p).1 := by
  have h := Go.VP.numE_rng (cutC 58 p).2.1
  unfold Go.VP.destE dTo dOf
  dsimp only
  rw [Int.toNat_of_nonneg h.1]
theorem rf_list {B b : Nat} {wd : ByteArray} {wl s : List UInt8} {m : XMsg} {vs : Value} {w : World} (hM : MsgW B w b m nil0 vs) (hl : m.list = []) (hsb : m.subs = [] ∧ vs = nil0) (hs : s.length ≤ 1000000) (hB : B ≤ w.heap.size) (hb4 : 4 ≤ b) (henv : envW w) (hw : 4 ≤ w.heap.size) :
    Calls Tryd.prog 31 #[.agg #[.string wd, .pointer none, .pointer none, .pointer (some ⟨b, 21, none⟩), .pointer none], .string ⟨⟨s⟩⟩] w (RPost B b 20 w m ((listFd wl (fun m => m.list) (fun m v => { m with list := v })).put s m)) := by
  refine (Tryd.read_list b 21 wd s (mcells m nil0 vs) w hs hM.box rfl henv hw hb4).mono fun e w' ⟨he, hbut, v, hbox, hown⟩ => ?_
  have hput : (listFd wl (fun m => m.list) (fun m v => { m with list := v })).put s m = (listRd s).map fun l => { m with list := l.map dOf } := rfl
  have hL : ((splitC 44 s).map fun p => dTo (Go.VP.destE p).1).map dOf = (splitC 44 s).map fun p => (Go.VP.destE p).1 := by
    rw [List.map_map]; exact List.map_congr_left fun p _ => dOf_dest p
  have hM' : MsgW B w' b { m with list := (splitC 44 s).map fun p => (Go.VP.destE p).1 } v vs := by
    refine ⟨hbox, ?_, own_but hM.subs hM.box (by decide) hbut⟩
    have := own_base hown hB
    show w'.ownsRow B _ 2 v ((splitC 44 s).map fun p => (Go.VP.destE p).1).length (lRow ((splitC 44 s).map fun p => (Go.VP.destE p).1))
    rw [List.length_map, show lRow ((splitC 44 s).map fun p => (Go.VP.destE p).1) = dRow (splitC 44 s) by unfold lRow dRow; rw [List.flatMap_map]]
    exact this
  refine ⟨hbut, ?_⟩
  rw [hput]
  unfold listRd
  by_cases h0 : s = []
  · rw [if_pos h0]; rw [h0] at he; exact .inr ⟨rfl, he⟩
  · rw [if_neg h0, allRd_dest]
    have h1 : s.isEmpty = false := by simpa using h0
    rw [h1] at he
    cases ha : (splitC 44 s).all fun p => (Go.VP.destE p).2 with
    | false => rw [ha] at he; rw [if_neg (by simp)]; exact .inr ⟨rfl, he⟩
    | true =>
      rw [ha] at he
      rw [if_pos rfl]
      have hq : ({ m with list := ((splitC 44 s).map fun p => dTo (Go.VP.destE p).1).map dOf } : XMsg) = { m with list := (splitC 44 s).map fun p => (Go.VP.destE p).1 } := by rw [hL]
      exact .inl ⟨_, v, vs, congrArg some hq, he, hM', rfl, fun h => by omega, fun _ => hsb⟩
theorem allRd_sub : ∀ (ps : List (List UInt8)), allRd subRd ps = if (ps.all fun p => (Go.VP.subE p).2) = true then some (ps.map fun p => sTo (Go.VP.subE p).1) else none
  | [] => rfl
  | p :: r => by
    rw [allRd, Go.VP.subE_rd, allRd_sub r, List.all_cons]
    cases (Go.VP.subE p).2 with
    | false => rfl
    | true =>
      cases r.all fun p => (Go.VP.subE p).2 with
      | false => rfl
      | true => rfl
theorem sOf_sub (p : List UInt8) : sOf (sTo (Go.VP.subE p).1) = (Go.VP.subE p).1 := by
  have h := Go.VP.numE_rng (cutC 58 p).1
  unfold Go.VP.subE sTo sOf
  dsimp only
  rw [Int.toNat_of_nonneg h.1]
theorem rf_subs {B b : Nat} {wd : ByteArray} {wl s : List UInt8} {m : XMsg} {vl : Value} {w : World} (hM : MsgW B w b m vl nil0) (hl : m.subs = []) (hs : s.length ≤ 1000000) (hB : B ≤ w.heap.size) (hb4 : 4 ≤ b) (henv : envW w) (hw : 4 ≤ w.heap.size) :
    Calls Tryd.prog 31 #[.agg #[.string wd, .pointer none, .pointer none, .pointer none, .pointer (some ⟨b, 24, none⟩)], .string ⟨⟨s⟩⟩] w (RPost B b 23 w m ((subsFd wl (fun m => m.subs) (fun m v => { m with subs := v })).put s m)) := by
  refine (Tryd.read_subs b 24 wd s (mcells m vl nil0) w hs hM.box rfl henv hw hb4).mono fun e w' ⟨he, hbut, v, hbox, hown⟩ => ?_
  have hput : (subsFd wl (fun m => m.subs) (fun m v => { m with subs := v })).put s m = (subsRd s).map fun l => { m with subs := l.map sOf } := rfl
  have hL : ((splitC 44 s).map fun p => sTo (Go.VP.subE p).1).map sOf = (splitC 44 s).map fun p => (Go.VP.subE p).1 := by
    rw [List.map_map]; exact List.map_congr_left fun p _ => sOf_sub p
  have hM' : MsgW B w' b { m with subs := (splitC 44 s).map fun p => (Go.VP.subE p).1 } vl v := by
    refine ⟨hbox, own_but hM.list hM.box (by decide) hbut, ?_⟩
    have := own_base hown hB
    show w'.ownsRow B _ 2 v ((splitC 44 s).map fun p => (Go.VP.subE p).1).length (bRow ((splitC 44 s).map fun p => (Go.VP.subE p).1))
    rw [List.length_map, show bRow ((splitC 44 s).map fun p => (Go.VP.subE p).1) = sRow (splitC 44 s) by unfold bRow sRow; rw [List.flatMap_map]]
    exact this
  refine ⟨hbut, ?_⟩
  rw [hput]
  unfold subsRd
  by_cases h0 : s = []
  · rw [if_pos h0]; rw [h0] at he; exact .inr ⟨rfl, he⟩
  · rw [if_neg h0, allRd_sub]
    have h1 : s.isEmpty = false := by simpa using h0
    rw [h1] at he
    cases ha : (splitC 44 s).all fun p => (Go.VP.subE p).2 with
    | false => rw [ha] at he; rw [if_neg (by simp)]; exact .inr ⟨rfl, he⟩
    | true =>
      rw [ha] at he
      rw [if_pos rfl]
      have hq : ({ m with subs := ((splitC 44 s).map fun p => sTo (Go.VP.subE p).1).map sOf } : XMsg) = { m with subs := (splitC 44 s).map fun p => (Go.VP.subE p).1 } := by rw [hL]
      exact .inl ⟨_, vl, v, congrArg some hq, he, hM', rfl, fun h => by omega, fun h => by omega⟩
theorem field_reads (k : Nat) (hk : k < 24) (b : Nat) : ∃ (wd : List UInt8) (p1 p2 p3 p4 : Option Addr) (f : TFd XMsg), FieldIs b k wd p1 p2 p3 p4 ∧ fsM[k]? = some f ∧ f.w = wd ∧ wd.length ≤ 10 ∧
    ∀ (B : Nat) (w : World) (m : XMsg) (vl vs : Value) (s : List UInt8), MsgW B w b m vl vs → (k ≤ 20 → m.list = [] ∧ vl = nil0) → (k ≤ 23 → m.subs = [] ∧ vs = nil0) → s.length ≤ 1000000 → B ≤ w.heap.size → 4 ≤ b → envW w → 4 ≤ w.heap.size →
      Calls Tryd.prog 31 #[.agg #[.string ⟨⟨wd⟩⟩, .pointer p1, .pointer p2, .pointer p3, .pointer p4], .string ⟨⟨s⟩⟩] w (RPost B b k w m (f.put s m)) := by
  match k, hk with
  | 0, _ => exact ⟨fd_cmd.w, some ⟨b, 1, none⟩, none, none, none, fd_cmd, ⟨rfl, rfl, rfl, rfl, rfl⟩, rfl, rfl, by decide, fun B w m vl vs s hM hl hs hn hB hb4 he hw => rf_num (wl := fd_cmd.w) (fun m => m.cmd) (fun m v => { m with cmd := v }) _ hM rfl (fun _ => rfl) (fun _ => rfl) (fun _ => rfl) (fun _ => rfl) hl hs hn he hw⟩
  | 1, _ => exact ⟨fd_ver.w, some ⟨b, 2, none⟩, none, none, none, fd_ver, ⟨rfl, rfl, rfl, rfl, rfl⟩, rfl, rfl, by decide, fun B w m vl vs s hM hl hs hn hB hb4 he hw => rf_num (wl := fd_ver.w) (fun m => m.ver) (fun m v => { m with ver := v }) _ hM rfl (fun _ => rfl) (fun _ => rfl) (fun _ => rfl) (fun _ => rfl) hl hs hn he hw⟩
  | 2, _ => exact ⟨fd_auth.w, none, some ⟨b, 3, none⟩, none, none, fd_auth, ⟨rfl, rfl, rfl, rfl, rfl⟩, rfl, rfl, by decide, fun B w m vl vs s hM hl hs hn hB hb4 he hw => rf_text (wl := fd_auth.w) (fun m => m.auth) (fun m v => { m with auth := v }) _ hM rfl (fun _ => rfl) (fun _ => rfl) (fun _ => rfl) (fun _ => rfl) hl hs hn he hw⟩
  | 3, _ => exact ⟨fd_family.w, some ⟨b, 4, none⟩, none, none, none, fd_family, ⟨rfl, rfl, rfl, rfl, rfl⟩, rfl, rfl, by decide, fun B w m vl vs s hM hl hs hn hB hb4 he hw => rf_num (wl := fd_family.w) (fun m => m.family) (fun m v => { m with family := v }) _ hM rfl (fun _ => rfl) (fun _ => rfl) (fun _ => rfl) (fun _ => rfl) hl hs hn he hw⟩
  | 4, _ => exact ⟨fd_ae.w, some ⟨b, 5, none⟩, none, none, none, fd_ae, ⟨rfl, rfl, rfl, rfl, rfl⟩, rfl, rfl, by decide, fun B w m vl vs s hM hl hs hn hB hb4 he hw => rf_num (wl := fd_ae.w) (fun m => m.ae) (fun m v => { m with ae := v }) _ hM rfl (fun _ => rfl) (fun _ => rfl) (fun _ => rfl) (fun _ => rfl) hl hs hn he hw⟩
  | 5, _ => exact ⟨fd_prefix_.w, none, some ⟨b, 6, none⟩, none, none, fd_prefix_, ⟨rfl, rfl, rfl, rfl, rfl⟩, rfl, rfl, by decide, fun B w m vl vs s hM hl hs hn hB hb4 he hw => rf_text (wl := fd_prefix_.w) (fun m => m.prefix_) (fun m v => { m with prefix_ := v }) _ hM rfl (fun _ => rfl) (fun _ => rfl) (fun _ => rfl) (fun _ => rfl) hl hs hn he hw⟩
  | 6, _ => exact ⟨fd_plen.w, some ⟨b, 7, none⟩, none, none, none, fd_plen, ⟨rfl, rfl, rfl, rfl, rfl⟩, rfl, rfl, by decide, fun B w m vl vs s hM hl hs hn hB hb4 he hw => rf_num (wl := fd_plen.w) (fun m => m.plen) (fun m v => { m with plen := v }) _ hM rfl (fun _ => rfl) (fun _ => rfl) (fun _ => rfl) (fun _ => rfl) hl hs hn he hw⟩
  | 7, _ => exact ⟨fd_tag.w, some ⟨b, 8, none⟩, none, none, none, fd_tag, ⟨rfl, rfl, rfl, rfl, rfl⟩, rfl, rfl, by decide, fun B w m vl vs s hM hl hs hn hB hb4 he hw => rf_num (wl := fd_tag.w) (fun m => m.tag) (fun m v => { m with tag := v }) _ hM rfl (fun _ => rfl) (fun _ => rfl) (fun _ => rfl) (fun _ => rfl) hl hs hn he hw⟩
  | 8, _ => exact ⟨fd_next.w, none, some ⟨b, 9, none⟩, none, none, fd_next, ⟨rfl, rfl, rfl, rfl, rfl⟩, rfl, rfl, by decide, fun B w m vl vs s hM hl hs hn hB hb4 he hw => rf_text (wl := fd_next.w) (fun m => m.next) (fun m v => { m with next := v }) _ hM rfl (fun _ => rfl) (fun _ => rfl) (fun _ => rfl) (fun _ => rfl) hl hs hn he hw⟩
  | 9, _ => exact ⟨fd_metric.w, some ⟨b, 10, none⟩, none, none, none, fd_metric, ⟨rfl, rfl, rfl, rfl, rfl⟩, rfl, rfl, by decide, fun B w m vl vs s hM hl hs hn hB hb4 he hw => rf_num (wl := fd_metric.w) (fun m => m.metric) (fun m v => { m with metric := v }) _ hM rfl (fun _ => rfl) (fun _ => rfl) (fun _ => rfl) (fun _ => rfl) hl hs hn he hw⟩
  | 10, _ => exact ⟨fd_id.w, none, some ⟨b, 11, none⟩, none, none, fd_id, ⟨rfl, rfl, rfl, rfl, rfl⟩, rfl, rfl, by decide, fun B w m vl vs s hM hl hs hn hB hb4 he hw => rf_text (wl := fd_id.w) (fun m => m.id) (fun m v => { m with id := v }) _ hM rfl (fun _ => rfl) (fun _ => rfl) (fun _ => rfl) (fun _ => rfl) hl hs hn he hw⟩
  | 11, _ => exact ⟨fd_seq.w, some ⟨b, 12, none⟩, none, none, none, fd_seq, ⟨rfl, rfl, rfl, rfl, rfl⟩, rfl, rfl, by decide, fun B w m vl vs s hM hl hs hn hB hb4 he hw => rf_num (wl := fd_seq.w) (fun m => m.seq) (fun m v => { m with seq := v }) _ hM rfl (fun _ => rfl) (fun _ => rfl) (fun _ => rfl) (fun _ => rfl) hl hs hn he hw⟩
  | 12, _ => exact ⟨fd_seq2.w, some ⟨b, 13, none⟩, none, none, none, fd_seq2, ⟨rfl, rfl, rfl, rfl, rfl⟩, rfl, rfl, by decide, fun B w m vl vs s hM hl hs hn hB hb4 he hw => rf_num (wl := fd_seq2.w) (fun m => m.seq2) (fun m v => { m with seq2 := v }) _ hM rfl (fun _ => rfl) (fun _ => rfl) (fun _ => rfl) (fun _ => rfl) hl hs hn he hw⟩
  | 13, _ => exact ⟨fd_interval.w, some ⟨b, 14, none⟩, none, none, none, fd_interval, ⟨rfl, rfl, rfl, rfl, rfl⟩, rfl, rfl, by decide, fun B w m vl vs s hM hl hs hn hB hb4 he hw => rf_num (wl := fd_interval.w) (fun m => m.interval) (fun m v => { m with interval := v }) _ hM rfl (fun _ => rfl) (fun _ => rfl) (fun _ => rfl) (fun _ => rfl) hl hs hn he hw⟩
  | 14, _ => exact ⟨fd_flags.w, some ⟨b, 15, none⟩, none, none, none, fd_flags, ⟨rfl, rfl, rfl, rfl, rfl⟩, rfl, rfl, by decide, fun B w m vl vs s hM hl hs hn hB hb4 he hw => rf_num (wl := fd_flags.w) (fun m => m.flags) (fun m v => { m with flags := v }) _ hM rfl (fun _ => rfl) (fun _ => rfl) (fun _ => rfl) (fun _ => rfl) hl hs hn he hw⟩
  | 15, _ => exact ⟨fd_hops.w, some ⟨b, 16, none⟩, none, none, none, fd_hops, ⟨rfl, rfl, rfl, rfl, rfl⟩, rfl, rfl, by decide, fun B w m vl vs s hM hl hs hn hB hb4 he hw => rf_num (wl := fd_hops.w) (fun m => m.hops) (fun m v => { m with hops := v }) _ hM rfl (fun _ => rfl) (fun _ => rfl) (fun _ => rfl) (fun _ => rfl) hl hs hn he hw⟩
  | 16, _ => exact ⟨fd_nonce.w, some ⟨b, 17, none⟩, none, none, none, fd_nonce, ⟨rfl, rfl, rfl, rfl, rfl⟩, rfl, rfl, by decide, fun B w m vl vs s hM hl hs hn hB hb4 he hw => rf_num (wl := fd_nonce.w) (fun m => m.nonce) (fun m v => { m with nonce := v }) _ hM rfl (fun _ => rfl) (fun _ => rfl) (fun _ => rfl) (fun _ => rfl) hl hs hn he hw⟩
  | 17, _ => exact ⟨fd_cost.w, some ⟨b, 18, none⟩, none, none, none, fd_cost, ⟨rfl, rfl, rfl, rfl, rfl⟩, rfl, rfl, by decide, fun B w m vl vs s hM hl hs hn hB hb4 he hw => rf_num (wl := fd_cost.w) (fun m => m.cost) (fun m v => { m with cost := v }) _ hM rfl (fun _ => rfl) (fun _ => rfl) (fun _ => rfl) (fun _ => rfl) hl hs hn he hw⟩
  | 18, _ => exact ⟨fd_addr.w, none, some ⟨b, 19, none⟩, none, none, fd_addr, ⟨rfl, rfl, rfl, rfl, rfl⟩, rfl, rfl, by decide, fun B w m vl vs s hM hl hs hn hB hb4 he hw => rf_text (wl := fd_addr.w) (fun m => m.addr) (fun m v => { m with addr := v }) _ hM rfl (fun _ => rfl) (fun _ => rfl) (fun _ => rfl) (fun _ => rfl) hl hs hn he hw⟩
  | 19, _ => exact ⟨fd_orig.w, none, some ⟨b, 20, none⟩, none, none, fd_orig, ⟨rfl, rfl, rfl, rfl, rfl⟩, rfl, rfl, by decide, fun B w m vl vs s hM hl hs hn hB hb4 he hw => rf_text (wl := fd_orig.w) (fun m => m.orig) (fun m v => { m with orig := v }) _ hM rfl (fun _ => rfl) (fun _ => rfl) (fun _ => rfl) (fun _ => rfl) hl hs hn he hw⟩
  | 20, _ => exact ⟨fd_list.w, none, none, some ⟨b, 21, none⟩, none, fd_list, ⟨rfl, rfl, rfl, rfl, rfl⟩, rfl, rfl, by decide, fun B w m vl vs s hM hl hs hn hB hb4 he hw => by obtain ⟨h1, rfl⟩ := hl (by decide); exact rf_list (wl := fd_list.w) hM h1 (hs (by decide)) hn hB hb4 he hw⟩
  | 21, _ => exact ⟨fd_type_.w, some ⟨b, 22, none⟩, none, none, none, fd_type_, ⟨rfl, rfl, rfl, rfl, rfl⟩, rfl, rfl, by decide, fun B w m vl vs s hM hl hs hn hB hb4 he hw => rf_num (wl := fd_type_.w) (fun m => m.type_) (fun m v => { m with type_ := v }) _ hM rfl (fun _ => rfl) (fun _ => rfl) (fun _ => rfl) (fun _ => rfl) hl hs hn he hw⟩
  | 22, _ => exact ⟨fd_data.w, none, some ⟨b, 23, none⟩, none, none, fd_data, ⟨rfl, rfl, rfl, rfl, rfl⟩, rfl, rfl, by decide, fun B w m vl vs s hM hl hs hn hB hb4 he hw => rf_text (wl := fd_data.w) (fun m => m.data) (fun m v => { m with data := v }) _ hM rfl (fun _ => rfl) (fun _ => rfl) (fun _ => rfl) (fun _ => rfl) hl hs hn he hw⟩
  | 23, _ => exact ⟨fd_subs.w, none, none, none, some ⟨b, 24, none⟩, fd_subs, ⟨rfl, rfl, rfl, rfl, rfl⟩, rfl, rfl, by decide, fun B w m vl vs s hM hl hs hn hB hb4 he hw => by obtain ⟨h1, rfl⟩ := hs (by decide); exact rf_subs (wl := fd_subs.w) hM h1 hn hB hb4 he hw⟩
  | k + 24, hk => exact absurd hk (by omega)
end Go.Proofs
