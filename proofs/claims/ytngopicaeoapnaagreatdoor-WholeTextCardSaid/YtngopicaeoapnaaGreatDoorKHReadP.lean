import Derived.Test.YtngopicaeoapnaaGreatDoorKHReadD
import Derived.Test.YtngopicaeoapnaaGreatDoorKHPrintH
set_option linter.unusedVariables false
set_option linter.unusedSimpArgs false
set_option maxRecDepth 100000
namespace Go.VI
open Go Go.Proofs Go.RowKit
structure df3 (m : aa2) : Prop where
  auth : m.auth.length ≤ 1000000
  prefix_ : m.prefix_.length ≤ 1000000
  next : m.next.length ≤ 1000000
  id : m.id.length ≤ 1000000
  addr : m.addr.length ≤ 1000000
  orig : m.orig.length ≤ 1000000
  data : m.data.length ≤ 1000000
  list : m.list.length ≤ 1000001 ∧ ∀ d ∈ m.list, d.addr.length ≤ 1000000
  subs : m.subs.length ≤ 1000001 ∧ ∀ d ∈ m.subs, d.data.length ≤ 1000000
theorem ao1 {wl s : List UInt8} {g : aa2 → Int} {p : aa2 → Int → aa2} {m m' : aa2} (h : (am0 wl g p).put s m = some m') : ∃ v, m' = p m v := by
  have hput : (am0 wl g p).put s m = match al1 s with | some v => if v = 0 then none else some (p m (v : Int)) | none => none := rfl
  rw [hput] at h
  cases hn : al1 s with
  | none => rw [hn] at h; cases h
  | some v =>
    rw [hn] at h
    dsimp only at h
    split at h
    · cases h
    · injection h with h; exact ⟨_, h.symm⟩
theorem aT3 {wl s : List UInt8} {g : aa2 → List UInt8} {p : aa2 → List UInt8 → aa2} {m m' : aa2} (hs : s.length ≤ 1000000) (h : (aq3 wl g p).put s m = some m') : ∃ v, v.length ≤ 1000000 ∧ m' = p m v := by
  have hput : (aq3 wl g p).put s m = if s = [] then none else (aj8 s).map (p m) := rfl
  rw [hput] at h
  split at h
  · cases h
  · cases hn : aj8 s with
    | none => rw [hn] at h; cases h
    | some v =>
      rw [hn] at h; injection h with h
      exact ⟨v, Nat.le_trans (Go.VP.hexRd_len _ s v (Nat.le_refl _) hn) hs, h.symm⟩
theorem ev0 {wl s : List UInt8} {g : aa2 → List ac1} {p : aa2 → List ac1 → aa2} {m m' : aa2} (hs : s.length ≤ 1000000) (h : (as3 wl g p).put s m = some m') : ∃ v : List ac1, (v.length ≤ 1000001 ∧ ∀ d ∈ v, d.addr.length ≤ 1000000) ∧ m' = p m v := by
  have hput : (as3 wl g p).put s m = (aR3 s).map fun l => p m (l.map dOf) := rfl
  rw [hput] at h
  unfold aR3 at h
  by_cases h0 : s = []
  · rw [if_pos h0] at h; cases h
  · rw [if_neg h0, cv1] at h
    split at h
    · injection h with h
      refine ⟨_, ⟨?_, fun d hd => ?_⟩, h.symm⟩
      · rw [List.length_map, List.length_map, bL4]; have := List.count_le_length (a := (44 : UInt8)) (l := s); omega
      · rw [List.map_map] at hd
        obtain ⟨q, hq, rfl⟩ := List.mem_map.1 hd
        have h1 := ax7 44 s q hq
        have h2 := Go.VP.bytesE_len (ac4 58 q).1
        have h3 := (Go.VP.cutC_len 58 q).1
        show (Go.VP.bytesE (ac4 58 q).1).1.length ≤ _
        omega
    · cases h
theorem ev1 {wl s : List UInt8} {g : aa2 → List aa8} {p : aa2 → List aa8 → aa2} {m m' : aa2} (hs : s.length ≤ 1000000) (h : (as4 wl g p).put s m = some m') : ∃ v : List aa8, (v.length ≤ 1000001 ∧ ∀ d ∈ v, d.data.length ≤ 1000000) ∧ m' = p m v := by
  have hput : (as4 wl g p).put s m = (aR4 s).map fun l => p m (l.map sOf) := rfl
  rw [hput] at h
  unfold aR4 at h
  by_cases h0 : s = []
  · rw [if_pos h0] at h; cases h
  · rw [if_neg h0, cO7] at h
    split at h
    · injection h with h
      refine ⟨_, ⟨?_, fun d hd => ?_⟩, h.symm⟩
      · rw [List.length_map, List.length_map, bL4]; have := List.count_le_length (a := (44 : UInt8)) (l := s); omega
      · rw [List.map_map] at hd
        obtain ⟨q, hq, rfl⟩ := List.mem_map.1 hd
        have h1 := ax7 44 s q hq
        have h2 := Go.VP.bytesE_len (ac4 58 q).2.1
        have h3 := (Go.VP.cutC_len 58 q).2
        show (Go.VP.bytesE (ac4 58 q).2.1).1.length ≤ _
        omega
    · cases h
theorem eE7 {s : List UInt8} (hs : s.length ≤ 1000000) {m m' : aa2} (h : df3 m) : ∀ f ∈ fsM, f.put s m = some m' → df3 m' := by
  intro f hf hp
  simp only [fsM, List.mem_cons, List.not_mem_nil, or_false] at hf
  rcases hf with rfl | rfl | rfl | rfl | rfl | rfl | rfl | rfl | rfl | rfl | rfl | rfl | rfl | rfl | rfl | rfl | rfl | rfl | rfl | rfl | rfl | rfl | rfl | rfl
  · obtain ⟨v, rfl⟩ := ao1 hp; exact ⟨h.auth, h.prefix_, h.next, h.id, h.addr, h.orig, h.data, h.list, h.subs⟩
  · obtain ⟨v, rfl⟩ := ao1 hp; exact ⟨h.auth, h.prefix_, h.next, h.id, h.addr, h.orig, h.data, h.list, h.subs⟩
  · obtain ⟨v, hv, rfl⟩ := aT3 hs hp; exact ⟨hv, h.prefix_, h.next, h.id, h.addr, h.orig, h.data, h.list, h.subs⟩
  · obtain ⟨v, rfl⟩ := ao1 hp; exact ⟨h.auth, h.prefix_, h.next, h.id, h.addr, h.orig, h.data, h.list, h.subs⟩
  · obtain ⟨v, rfl⟩ := ao1 hp; exact ⟨h.auth, h.prefix_, h.next, h.id, h.addr, h.orig, h.data, h.list, h.subs⟩
  · obtain ⟨v, hv, rfl⟩ := aT3 hs hp; exact ⟨h.auth, hv, h.next, h.id, h.addr, h.orig, h.data, h.list, h.subs⟩
  · obtain ⟨v, rfl⟩ := ao1 hp; exact ⟨h.auth, h.prefix_, h.next, h.id, h.addr, h.orig, h.data, h.list, h.subs⟩
  · obtain ⟨v, rfl⟩ := ao1 hp; exact ⟨h.auth, h.prefix_, h.next, h.id, h.addr, h.orig, h.data, h.list, h.subs⟩
  · obtain ⟨v, hv, rfl⟩ := aT3 hs hp; exact ⟨h.auth, h.prefix_, hv, h.id, h.addr, h.orig, h.data, h.list, h.subs⟩
  · obtain ⟨v, rfl⟩ := ao1 hp; exact ⟨h.auth, h.prefix_, h.next, h.id, h.addr, h.orig, h.data, h.list, h.subs⟩
  · obtain ⟨v, hv, rfl⟩ := aT3 hs hp; exact ⟨h.auth, h.prefix_, h.next, hv, h.addr, h.orig, h.data, h.list, h.subs⟩
  · obtain ⟨v, rfl⟩ := ao1 hp; exact ⟨h.auth, h.prefix_, h.next, h.id, h.addr, h.orig, h.data, h.list, h.subs⟩
  · obtain ⟨v, rfl⟩ := ao1 hp; exact ⟨h.auth, h.prefix_, h.next, h.id, h.addr, h.orig, h.data, h.list, h.subs⟩
  · obtain ⟨v, rfl⟩ := ao1 hp; exact ⟨h.auth, h.prefix_, h.next, h.id, h.addr, h.orig, h.data, h.list, h.subs⟩
  · obtain ⟨v, rfl⟩ := ao1 hp; exact ⟨h.auth, h.prefix_, h.next, h.id, h.addr, h.orig, h.data, h.list, h.subs⟩
  · obtain ⟨v, rfl⟩ := ao1 hp; exact ⟨h.auth, h.prefix_, h.next, h.id, h.addr, h.orig, h.data, h.list, h.subs⟩
  · obtain ⟨v, rfl⟩ := ao1 hp; exact ⟨h.auth, h.prefix_, h.next, h.id, h.addr, h.orig, h.data, h.list, h.subs⟩
  · obtain ⟨v, rfl⟩ := ao1 hp; exact ⟨h.auth, h.prefix_, h.next, h.id, h.addr, h.orig, h.data, h.list, h.subs⟩
  · obtain ⟨v, hv, rfl⟩ := aT3 hs hp; exact ⟨h.auth, h.prefix_, h.next, h.id, hv, h.orig, h.data, h.list, h.subs⟩
  · obtain ⟨v, hv, rfl⟩ := aT3 hs hp; exact ⟨h.auth, h.prefix_, h.next, h.id, h.addr, hv, h.data, h.list, h.subs⟩
  · obtain ⟨v, hv, rfl⟩ := ev0 hs hp; exact ⟨h.auth, h.prefix_, h.next, h.id, h.addr, h.orig, h.data, hv, h.subs⟩
  · obtain ⟨v, rfl⟩ := ao1 hp; exact ⟨h.auth, h.prefix_, h.next, h.id, h.addr, h.orig, h.data, h.list, h.subs⟩
  · obtain ⟨v, hv, rfl⟩ := aT3 hs hp; exact ⟨h.auth, h.prefix_, h.next, h.id, h.addr, h.orig, hv, h.list, h.subs⟩
  · obtain ⟨v, hv, rfl⟩ := ev1 hs hp; exact ⟨h.auth, h.prefix_, h.next, h.id, h.addr, h.orig, h.data, h.list, hv⟩
theorem dC4 (k : Int) : df3 (ak6 k) := ⟨by simp [ak6], by simp [ak6], by simp [ak6], by simp [ak6], by simp [ak6], by simp [ak6], by simp [ak6], ⟨by simp [ak6], by simp [ak6]⟩, ⟨by simp [ak6], by simp [ak6]⟩⟩
theorem dC5 {w : World} {I : Nat → Nat → Prop} {α : Type} {e B : Nat} {enc2 : α → CV U.τ × CV U.τ} {cl : α → Value × Value} {c : CV U.τ} {l : List α} {v : Value} (hsz : Tryz.prog.cellsOf e = 2)
    (hc : cont c = some (e, l.map (fun d => [(enc2 d).1, (enc2 d).2]), .ro)) (hl : (l.length : Int) ≤ ad0) (hcl : ∀ d ∈ l, PC Tryz.prog U w I (enc2 d).1 (cl d).1 ∧ PC Tryz.prog U w I (enc2 d).2 (cl d).2)
    (hI : ∀ b o, B ≤ b → (w.cell? ⟨b, o, none⟩).isSome = true → I b o) (h : w.ownsRow B e 2 v l.length (l.flatMap fun d => [(cl d).1, (cl d).2])) : PC Tryz.prog U w I c v := by
  rcases h.2 with ⟨rfl, hn⟩ | ⟨g, cap, cur, rfl, hB, hg, hcap, _, _, _⟩
  · have h0 := List.length_eq_zero_iff.1 hn
    subst h0
    exact .nil _ _ _ hc (by simp)
  · have at_ : ∀ (i : Nat) (d : α), l[i]? = some d → w.cell? ⟨g, i * 2, none⟩ = some (cl d).1 ∧ w.cell? ⟨g, i * 2 + 1, none⟩ = some (cl d).2 := fun i d hi => by
      have hlt := (List.getElem?_eq_some_iff.1 hi).1
      have hfl : ∀ (l : List α) (i : Nat) (d : α), l[i]? = some d → (l.flatMap fun d => [(cl d).1, (cl d).2])[i * 2]? = some (cl d).1 ∧ (l.flatMap fun d => [(cl d).1, (cl d).2])[i * 2 + 1]? = some (cl d).2 := by
        intro l
        induction l with
        | nil => intro i d h; simp at h
        | cons x r ih =>
          intro i d h
          cases i with
          | zero => simp at h; subst h; exact ⟨rfl, rfl⟩
          | succ i =>
            have := ih i d (by simpa using h)
            rw [List.flatMap_cons, show (i + 1) * 2 = i * 2 + 2 by omega]
            exact this
      obtain ⟨h1, h2⟩ := hfl l i d hi
      exact ⟨(h.cellAt (i * 2) (by omega)).trans h1, (h.cellAt (i * 2 + 1) (by omega)).trans h2⟩
    have := PC.of_cont (P := Tryz.prog) (U := U) (w := w) (I := I) (c := c) (e := e) (css := l.map (fun d => [(enc2 d).1, (enc2 d).2])) (f := .ro) (b := g) (off := 0) (cap := cap) hc (by simp) (by rw [List.length_map]; exact hcap) (by simp) (by rw [List.length_map]; exact hl)
      ⟨fun i cs h => by
        rw [List.getElem?_map] at h
        obtain ⟨d, _, rfl⟩ := Option.map_eq_some_iff.1 h
        rw [hsz]; rfl, fun i cs j x h hj => by
        rw [List.getElem?_map] at h
        obtain ⟨d, hd, rfl⟩ := Option.map_eq_some_iff.1 h
        rw [hsz]
        obtain ⟨h1, h2⟩ := at_ i d hd
        match j, hj with
        | 0, hj => rw [Nat.zero_add, Nat.add_zero]; exact hI _ _ hB (by rw [h1]; rfl)
        | 1, hj => rw [Nat.zero_add]; exact hI _ _ hB (by rw [h2]; rfl)
        | j + 2, hj => simp at hj, fun i cs j x h hj => by
        rw [List.getElem?_map] at h
        obtain ⟨d, hd, rfl⟩ := Option.map_eq_some_iff.1 h
        rw [hsz]
        obtain ⟨h1, h2⟩ := at_ i d hd
        have hp := hcl d (List.mem_of_getElem? hd)
        match j, hj with
        | 0, hj => injection hj with hj; subst hj; rw [Nat.zero_add, Nat.add_zero]; exact ⟨_, h1, hp.1⟩
        | 1, hj => injection hj with hj; subst hj; rw [Nat.zero_add]; exact ⟨_, h2, hp.2⟩
        | j + 2, hj => simp at hj⟩
    rw [List.length_map] at this
    exact this
theorem cO8 {B : Nat} {w : World} {I : Nat → Nat → Prop} {m : aa2} {vl vs : Value} (hl : w.ownsRow B 73 2 vl m.list.length (df1 m.list)) (hs : w.ownsRow B 75 2 vs m.subs.length (df2 m.subs)) (hk : 0 ≤ m.kind ∧ m.kind ≤ 14) (hN : ad7 m) (hL : df3 m)
    (hI : ∀ b o, B ≤ b → (w.cell? ⟨b, o, none⟩).isSome = true → I b o) : ∀ (j : Nat) c, (ab2.enc false m : List (CV U.τ))[j]? = some c → ∃ x, (ae2 m vl vs)[j]? = some x ∧ PC Tryz.prog U w I c x := by
  have n64 : ∀ {n : Int}, rng n → PC Tryz.prog U w I (.int .i64 n) (.int .i64 n) := fun h => PC.int _ _ (cM9 ⟨by have := h.1; omega, by have := h.2; omega⟩)
  have s64 : ∀ {s : List UInt8}, s.length ≤ 1000000 → PC Tryz.prog U w I (.str s) (.string ⟨⟨s⟩⟩) := fun {s} h => PC.str _ (show (s.length : Int) ≤ 9223372036854775807 by omega)
  intro j c hj
  match j, hj with
  | 0, hj => injection hj with hj; subst hj; exact ⟨_, rfl, PC.int _ _ (cM9 (x := m.kind) ⟨by omega, by omega⟩)⟩
  | 1, hj => injection hj with hj; subst hj; exact ⟨_, rfl, n64 hN.cmd⟩
  | 2, hj => injection hj with hj; subst hj; exact ⟨_, rfl, n64 hN.ver⟩
  | 3, hj => injection hj with hj; subst hj; exact ⟨_, rfl, s64 hL.auth⟩
  | 4, hj => injection hj with hj; subst hj; exact ⟨_, rfl, n64 hN.family⟩
  | 5, hj => injection hj with hj; subst hj; exact ⟨_, rfl, n64 hN.ae⟩
  | 6, hj => injection hj with hj; subst hj; exact ⟨_, rfl, s64 hL.prefix_⟩
  | 7, hj => injection hj with hj; subst hj; exact ⟨_, rfl, n64 hN.plen⟩
  | 8, hj => injection hj with hj; subst hj; exact ⟨_, rfl, n64 hN.tag⟩
  | 9, hj => injection hj with hj; subst hj; exact ⟨_, rfl, s64 hL.next⟩
  | 10, hj => injection hj with hj; subst hj; exact ⟨_, rfl, n64 hN.metric⟩
  | 11, hj => injection hj with hj; subst hj; exact ⟨_, rfl, s64 hL.id⟩
  | 12, hj => injection hj with hj; subst hj; exact ⟨_, rfl, n64 hN.seq⟩
  | 13, hj => injection hj with hj; subst hj; exact ⟨_, rfl, n64 hN.seq2⟩
  | 14, hj => injection hj with hj; subst hj; exact ⟨_, rfl, n64 hN.interval⟩
  | 15, hj => injection hj with hj; subst hj; exact ⟨_, rfl, n64 hN.flags⟩
  | 16, hj => injection hj with hj; subst hj; exact ⟨_, rfl, n64 hN.hops⟩
  | 17, hj => injection hj with hj; subst hj; exact ⟨_, rfl, n64 hN.nonce⟩
  | 18, hj => injection hj with hj; subst hj; exact ⟨_, rfl, n64 hN.cost⟩
  | 19, hj => injection hj with hj; subst hj; exact ⟨_, rfl, s64 hL.addr⟩
  | 20, hj => injection hj with hj; subst hj; exact ⟨_, rfl, s64 hL.orig⟩
  | 21, hj => injection hj with hj; subst hj; exact ⟨_, rfl, dC5 (e := 73) (B := B) (enc2 := fun d => (.str d.addr, .int .i64 d.seq)) (cl := bo5) (by kernel_rfl) rfl (by have := hL.list.1; show (m.list.length : Int) ≤ 9223372036854775807; omega) (fun d hd => ⟨s64 (hL.list.2 d hd), n64 (hN.list d hd)⟩) hI hl⟩
  | 22, hj => injection hj with hj; subst hj; exact ⟨_, rfl, n64 hN.type_⟩
  | 23, hj => injection hj with hj; subst hj; exact ⟨_, rfl, s64 hL.data⟩
  | 24, hj => injection hj with hj; subst hj; exact ⟨_, rfl, dC5 (e := 75) (B := B) (enc2 := fun d => (.int .i64 d.type_, .str d.data)) (cl := bo6) (by kernel_rfl) rfl (by have := hL.subs.1; show (m.subs.length : Int) ≤ 9223372036854775807; omega) (fun d hd => ⟨n64 (hN.subs d hd), s64 (hL.subs.2 d hd)⟩) hI hs⟩
  | j + 25, hj => cases hj
end Go.VI
