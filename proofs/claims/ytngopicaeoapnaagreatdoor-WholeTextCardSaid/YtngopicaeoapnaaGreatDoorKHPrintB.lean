import Derived.Test.YtngopicaeoapnaaGreatDoorKHCall
import Derived.Test.YtngopicaeoapnaaGreatDoorKM0
import Derived.Deep.RegionHeld3
import Derived.Deep.AppendLies
import Derived.Laws.OwnMore
import Derived.Lib.JoinLaws
import Derived.IntWalk
set_option linter.unusedVariables false
set_option linter.unusedSimpArgs false
namespace Go.Proofs
open Go.RowKit Go.Sort Go.Lib
open Go.VI
abbrev st : List UInt8 → Value := fun x => .string ⟨⟨x⟩⟩
theorem ai6 {B : Nat} {e : TypeId} {sz : Nat} {v : Value} {n : Nat} {xs : List Value} {w w' : World} (h : w.ownsRow B e sz v n xs) (hb : Below w.heap.size w w') : w'.ownsRow B e sz v n xs := by
  refine ⟨h.1, ?_⟩
  rcases h.2 with hn | ⟨g, cap, cur, hv, hbg, hg, rest⟩
  · exact .inl hn
  · exact .inr ⟨g, cap, cur, hv, hbg, (hb.block g (Array.getElem?_eq_some_iff.1 hg).1).trans hg, rest⟩
theorem dT5 (c : UInt8) : ∀ (l : List (List UInt8)), Lib.join l [c] = ai7 c l
  | [] => rfl
  | [p] => by rw [Lib.join_one]; rfl
  | p :: q :: r => by
    rw [ai7, ← dT5 c (q :: r), Lib.join_cons, Lib.join_cons]
    simp [Lib.joinTail]
structure cT2 (w : World) (g off : Nat) (l : List (Value × Value)) : Prop where
  lt : g < w.heap.size
  at0 : ∀ (i : Nat) x, l[i]? = some x → w.cell? ⟨g, off + i * 2, none⟩ = some x.1
  at1 : ∀ (i : Nat) x, l[i]? = some x → w.cell? ⟨g, off + i * 2 + 1, none⟩ = some x.2
theorem cT2.below {w w' : World} {g off : Nat} {l : List (Value × Value)} (h : cT2 w g off l) (hb : Below w.heap.size w w') : cT2 w' g off l :=
  ⟨Nat.lt_of_lt_of_le h.lt hb.size, fun i x hi => (hb.cell h.lt).trans (h.at0 i x hi), fun i x hi => (hb.cell h.lt).trans (h.at1 i x hi)⟩
def av0 (w : World) (v : Value) (l : List (Value × Value)) : Prop :=
  (l = [] ∧ v = .slice none 0 0) ∨ (l = [] ∧ ∃ p cap, v = .slice (some p) 0 cap) ∨ ∃ g off cap, v = .slice (some ⟨g, off, none⟩) l.length cap ∧ l.length ≤ cap ∧ cT2 w g off l
theorem Tryz.join_w (g cap n : Nat) (l : List (List UInt8)) (B : Nat) (w : World) (h : w.ownsRow B 9 1 (.slice (some ⟨g, 0, none⟩) n cap) n (l.map st)) (hn : l.length = n) (h0 : 0 < n) (hl : (ai7 44 l).length ≤ 1000000000) (hc : n ≤ 1000000) :
    Calls Tryz.prog 42 #[.slice (some ⟨g, 0, none⟩) n cap, .string ⟨#[44]⟩] w fun e w' => e = .returned (.string ⟨⟨ai7 44 l⟩⟩) ∧ Below w.heap.size w w' := by
  have hcap : n ≤ cap := by
    rcases h.2 with ⟨h0, _⟩ | ⟨g', cap', cur, h0, _, _, hc1, _⟩
    · cases h0
    · simp only [Value.slice.injEq] at h0; omega
  have hm : (l.map fun x => (⟨⟨x⟩⟩ : ByteArray)).map (·.data.toList) = l := by rw [List.map_map]; exact List.map_id' _
  have hlen : (l.map fun x => (⟨⟨x⟩⟩ : ByteArray)).length = n := by rw [List.length_map, hn]
  have := Tryz.strings_Join g 0 cap (l.map fun x => (⟨⟨x⟩⟩ : ByteArray)) ⟨#[44]⟩ w (fun j x hj => by
    rw [List.getElem?_map] at hj
    cases hx : l[j]? with
    | none => rw [hx] at hj; cases hj
    | some y =>
      rw [hx] at hj; injection hj with hj; subst hj
      rw [Nat.zero_add, h.cellAt j (by have := (List.getElem?_eq_some_iff.1 hx).1; omega), List.getElem?_map, hx]; rfl) (h.lt g rfl).2 (by rw [hlen]; omega) (by rw [hlen]; exact hcap) (by rw [hm]; show (Lib.join l [44]).length ≤ _; rw [dT5]; omega)
  rw [hlen, hm] at this
  refine this.mono fun e w' ⟨he, hb⟩ => ⟨?_, hb⟩
  rw [he]
  show Ending.returned (.string ⟨(Lib.join l [44]).toArray⟩) = _
  rw [dT5]
theorem Tryz.join0_w (a : Option Addr) (cap : Nat) (w : World) : Calls Tryz.prog 42 #[.slice a 0 cap, .string ⟨#[44]⟩] w fun e w' => e = .returned (.string ⟨#[]⟩) ∧ Below w.heap.size w w' :=
  (Tryz.strings_Join_none a cap ⟨#[44]⟩ w).mono fun e w' ⟨he, hw⟩ => ⟨he, by rw [hw]; exact Below.refl _ _⟩
set_option maxHeartbeats 4000000 in
set_option maxRecDepth 100000 in
theorem Tryz.print_text (b o : Nat) (wd : ByteArray) (s : List UInt8) (w : World) (hs : s.length ≤ 1000000) (hb : b < w.heap.size) (hc : w.cell? ⟨b, o, none⟩ = some (.string ⟨⟨s⟩⟩)) (henv : envW w) (hw : 4 ≤ w.heap.size) :
    Calls Tryz.prog 17 #[.agg #[.string wd, .pointer none, .pointer (some ⟨b, o, none⟩), .pointer none, .pointer none]] w fun e w' => e = .returned (.tuple #[.string ⟨⟨ag9 s⟩⟩, .bool true]) ∧ Below w.heap.size w w' := by
  have hbl : Below w.heap.size w (w.alloc (.cells #[.string wd, .pointer none, .pointer (some ⟨b, o, none⟩), .pointer none, .pointer none] 64)) := (Below.refl _ w).alloc (Nat.le_refl _) _
  have hd := Tryz.digits_w s (w.alloc (.cells #[.string wd, .pointer none, .pointer (some ⟨b, o, none⟩), .pointer none, .pointer none] 64)) hs (af9 henv hw hbl) (Nat.le_trans hw hbl.size)
  go_enter Tryz.func17, Tryz.ntmps17
  go_wp2_with (go_at_call 41; refine hd.mono ?_; rintro e w' ⟨rfl, hb'⟩)
  go_ret2
  exact ⟨rfl, hbl.trans (hb'.mono hbl.size)⟩
def bo5 (d : ac1) : Value × Value := (.string ⟨⟨d.addr⟩⟩, .int .i64 d.seq)
def bo6 (d : aa8) : Value × Value := (.int .i64 d.type_, .string ⟨⟨d.data⟩⟩)
set_option maxHeartbeats 4000000 in
set_option maxRecDepth 100000 in
theorem Tryz.print_list_nil (b o : Nat) (wd : ByteArray) (v : Value) (w : World) (hb : b < w.heap.size) (hc : w.cell? ⟨b, o, none⟩ = some v) (hv : v = .slice none 0 0 ∨ ∃ p cap, v = .slice (some p) 0 cap) :
    Calls Tryz.prog 17 #[.agg #[.string wd, .pointer none, .pointer none, .pointer (some ⟨b, o, none⟩), .pointer none]] w fun e w' => e = .returned (.tuple #[.string ⟨#[]⟩, .bool true]) ∧ Below w.heap.size w w' := by
  have hbl : Below w.heap.size w (w.alloc (.cells #[.string wd, .pointer none, .pointer none, .pointer (some ⟨b, o, none⟩), .pointer none] 64)) := (Below.refl _ w).alloc (Nat.le_refl _) _
  obtain ⟨p, cap, rfl⟩ : ∃ p cap, v = .slice p 0 cap := by
    rcases hv with h | ⟨p, cap, h⟩
    · exact ⟨_, _, h⟩
    · exact ⟨_, _, h⟩
  go_enter Tryz.func17, Tryz.ntmps17
  go_wp2
  go_loopw [4, 71] (fun v i wr => v = .slice none 0 0 ∧ i = .int .i64 0 ∧ Hid (Below w.heap.size w wr)) (fun _ i _ => 0)
  case atStart => exact ⟨rfl, rfl, hbl⟩
  case round =>
    obtain ⟨rfl, rfl, HL⟩ := hrel
    rename World => W0
    go_wp2_with (go_at_call 42; refine (Tryz.join0_w _ _ _).mono ?_; rintro e w' ⟨rfl, hb'⟩)
    go_ret2
    exact ⟨rfl, HL.out.trans (hb'.mono HL.out.size)⟩
end Go.Proofs
