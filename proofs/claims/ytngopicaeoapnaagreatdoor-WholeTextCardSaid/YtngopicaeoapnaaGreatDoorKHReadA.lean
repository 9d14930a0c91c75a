import Derived.Test.YtngopicaeoapnaaGreatDoorKHCall
import Derived.Test.YtngopicaeoapnaaGreatDoorKHPrintB
set_option linter.unusedVariables false
set_option linter.unusedSimpArgs false
set_option maxRecDepth 100000
namespace Go.Proofs
open Go.RowKit Go.Sort Go.Lib
open Go.VI
theorem cO6 {w w' : World} {b o : Nat} (hb : Below w.heap.size w w') (hlt : b < w.heap.size) (h : w.frozen? ⟨b, o, none⟩ = false) : w'.frozen? ⟨b, o, none⟩ = false := by
  rw [World.frozen?_of_block (a := ⟨b, o, none⟩) (hb.block b hlt)]; exact h
set_option maxHeartbeats 4000000 in
theorem Tryz.read_num (b o : Nat) (wd : ByteArray) (s : List UInt8) (x : Value) (w : World) (hs : s.length ≤ 1000000) (hb : b < w.heap.size) (hc : w.cell? ⟨b, o, none⟩ = some x) (hfz : w.frozen? ⟨b, o, none⟩ = false) (henv : envW w) (hw : 4 ≤ w.heap.size) :
    Calls Tryz.prog 22 #[.agg #[.string wd, .pointer (some ⟨b, o, none⟩), .pointer none, .pointer none, .pointer none], .string ⟨⟨s⟩⟩] w fun e w' =>
      e = .returned (.bool ((ao8 s).2 && (ao8 s).1 != 0)) ∧ ∃ w1, Below w.heap.size w w1 ∧ w' = w1.setCell ⟨b, o, none⟩ (.int .i64 (ao8 s).1) := by
  have hbl : Below w.heap.size w (w.alloc (.cells #[.string wd, .pointer (some ⟨b, o, none⟩), .pointer none, .pointer none, .pointer none] 64)) := (Below.refl _ w).alloc (Nat.le_refl _) _
  have hlz : w.heap.size < (w.alloc (.cells #[.string wd, .pointer (some ⟨b, o, none⟩), .pointer none, .pointer none, .pointer none] 64)).heap.size := by simp
  have hp0 : (w.alloc (.cells #[.string wd, .pointer (some ⟨b, o, none⟩), .pointer none, .pointer none, .pointer none] 64)).cell? ⟨w.heap.size, 1, none⟩ = some (.pointer (some ⟨b, o, none⟩)) := by simp
  have HC := Lib.hid (Tryz.number_w ⟨⟨s⟩⟩ (w.alloc (.cells #[.string wd, .pointer (some ⟨b, o, none⟩), .pointer none, .pointer none, .pointer none] 64)) hs (af9 henv hw hbl) (Nat.le_trans hw hbl.size))
  have hstep : ∀ w1, Below (w.alloc (.cells #[.string wd, .pointer (some ⟨b, o, none⟩), .pointer none, .pointer none, .pointer none] 64)).heap.size (w.alloc (.cells #[.string wd, .pointer (some ⟨b, o, none⟩), .pointer none, .pointer none, .pointer none] 64)) w1 →
      w1.cell? ⟨w.heap.size, 1, none⟩ = some (.pointer (some ⟨b, o, none⟩)) ∧ w1.cell? ⟨b, o, none⟩ = some x ∧ w1.frozen? ⟨b, o, none⟩ = false ∧ Below w.heap.size w w1 := fun w1 h1 =>
    have h2 := hbl.trans (h1.mono hbl.size)
    ⟨(h1.cell (p := ⟨w.heap.size, 1, none⟩) hlz).trans hp0, (h2.cell (p := ⟨b, o, none⟩) hb).trans hc, cO6 h2 hb hfz, h2⟩
  have HST := Lib.hid hstep
  clear hstep hp0
  have hne : b ≠ w.heap.size := by omega
  cases hE : ao8 s with
  | mk v q =>
  have HC' : Hid (Calls Tryz.prog 45 #[.string ⟨⟨s⟩⟩] (w.alloc (.cells #[.string wd, .pointer (some ⟨b, o, none⟩), .pointer none, .pointer none, .pointer none] 64)) fun e w' => e = .returned (.tuple #[.int .i64 v, .bool q]) ∧ Below (w.alloc (.cells #[.string wd, .pointer (some ⟨b, o, none⟩), .pointer none, .pointer none, .pointer none] 64)).heap.size (w.alloc (.cells #[.string wd, .pointer (some ⟨b, o, none⟩), .pointer none, .pointer none, .pointer none] 64)) w') := by
    have := HC.out
    rw [show (⟨⟨s⟩⟩ : ByteArray).data.toList = s from rfl, hE] at this
    exact this
  clear HC hE
  cases q with
  | false =>
    go_enter Tryz.func22, Tryz.ntmps22
    go_wp2_with fail
    refine HC'.out.mono ?_
    rintro e w1 ⟨rfl, h1⟩
    obtain ⟨a1, a2, a3, a4⟩ := HST.out w1 h1
    go_wp2
    go_ret
    exact ⟨rfl, w1, a4, rfl⟩
  | true =>
    by_cases h0 : v = 0
    · subst h0
      go_enter Tryz.func22, Tryz.ntmps22
      go_wp2_with fail
      refine HC'.out.mono ?_
      rintro e w1 ⟨rfl, h1⟩
      obtain ⟨a1, a2, a3, a4⟩ := HST.out w1 h1
      go_wp2
      go_ret
      exact ⟨rfl, w1, a4, rfl⟩
    · have hq : (v == 0) = false := by simpa using h0
      go_enter Tryz.func22, Tryz.ntmps22
      go_wp2_with fail
      refine HC'.out.mono ?_
      rintro e w1 ⟨rfl, h1⟩
      obtain ⟨a1, a2, a3, a4⟩ := HST.out w1 h1
      go_wp2
      go_ret
      exact ⟨rfl, w1, a4, rfl⟩
set_option maxHeartbeats 4000000 in
theorem Tryz.read_text (b o : Nat) (wd : ByteArray) (s : List UInt8) (x : Value) (w : World) (hs : s.length ≤ 1000000) (hb : b < w.heap.size) (hc : w.cell? ⟨b, o, none⟩ = some x) (hfz : w.frozen? ⟨b, o, none⟩ = false) (henv : envW w) (hw : 4 ≤ w.heap.size) :
    Calls Tryz.prog 22 #[.agg #[.string wd, .pointer none, .pointer (some ⟨b, o, none⟩), .pointer none, .pointer none], .string ⟨⟨s⟩⟩] w fun e w' =>
      e = .returned (.bool (!s.isEmpty && (Go.VP.bytesE s).2)) ∧ ∃ w1, Below w.heap.size w w1 ∧ w' = w1.setCell ⟨b, o, none⟩ (.string ⟨⟨(Go.VP.bytesE s).1⟩⟩) := by
  have hbl : Below w.heap.size w (w.alloc (.cells #[.string wd, .pointer none, .pointer (some ⟨b, o, none⟩), .pointer none, .pointer none] 64)) := (Below.refl _ w).alloc (Nat.le_refl _) _
  have hlz : w.heap.size < (w.alloc (.cells #[.string wd, .pointer none, .pointer (some ⟨b, o, none⟩), .pointer none, .pointer none] 64)).heap.size := by simp
  have hp0 : (w.alloc (.cells #[.string wd, .pointer none, .pointer (some ⟨b, o, none⟩), .pointer none, .pointer none] 64)).cell? ⟨w.heap.size, 2, none⟩ = some (.pointer (some ⟨b, o, none⟩)) := by simp
  have HC := Lib.hid (Tryz.bytes_w s (w.alloc (.cells #[.string wd, .pointer none, .pointer (some ⟨b, o, none⟩), .pointer none, .pointer none] 64)) hs (af9 henv hw hbl) (Nat.le_trans hw hbl.size))
  have hstep : ∀ w1, Below (w.alloc (.cells #[.string wd, .pointer none, .pointer (some ⟨b, o, none⟩), .pointer none, .pointer none] 64)).heap.size (w.alloc (.cells #[.string wd, .pointer none, .pointer (some ⟨b, o, none⟩), .pointer none, .pointer none] 64)) w1 →
      w1.cell? ⟨w.heap.size, 2, none⟩ = some (.pointer (some ⟨b, o, none⟩)) ∧ w1.cell? ⟨b, o, none⟩ = some x ∧ w1.frozen? ⟨b, o, none⟩ = false ∧ Below w.heap.size w w1 := fun w1 h1 =>
    have h2 := hbl.trans (h1.mono hbl.size)
    ⟨(h1.cell (p := ⟨w.heap.size, 2, none⟩) hlz).trans hp0, (h2.cell (p := ⟨b, o, none⟩) hb).trans hc, cO6 h2 hb hfz, h2⟩
  have HST := Lib.hid hstep
  clear hstep hp0
  have hne : b ≠ w.heap.size := by omega
  cases hE : Go.VP.bytesE s with
  | mk v q =>
  have HC' : Hid (Calls Tryz.prog 46 #[.string ⟨⟨s⟩⟩] (w.alloc (.cells #[.string wd, .pointer none, .pointer (some ⟨b, o, none⟩), .pointer none, .pointer none] 64)) fun e w' => e = .returned (.tuple #[.string ⟨⟨v⟩⟩, .bool q]) ∧ Below (w.alloc (.cells #[.string wd, .pointer none, .pointer (some ⟨b, o, none⟩), .pointer none, .pointer none] 64)).heap.size (w.alloc (.cells #[.string wd, .pointer none, .pointer (some ⟨b, o, none⟩), .pointer none, .pointer none] 64)) w') := by
    have := HC.out
    rw [hE] at this
    exact this
  clear HC hE
  cases hq : s.isEmpty with
  | true =>
    go_enter Tryz.func22, Tryz.ntmps22
    go_wp2_with fail
    refine HC'.out.mono ?_
    rintro e w1 ⟨rfl, h1⟩
    obtain ⟨a1, a2, a3, a4⟩ := HST.out w1 h1
    go_wp2
    go_ret
    exact ⟨rfl, w1, a4, rfl⟩
  | false =>
    cases q with
    | false =>
      go_enter Tryz.func22, Tryz.ntmps22
      go_wp2_with fail
      refine HC'.out.mono ?_
      rintro e w1 ⟨rfl, h1⟩
      obtain ⟨a1, a2, a3, a4⟩ := HST.out w1 h1
      go_wp2
      go_ret
      exact ⟨rfl, w1, a4, rfl⟩
    | true =>
      go_enter Tryz.func22, Tryz.ntmps22
      go_wp2_with fail
      refine HC'.out.mono ?_
      rintro e w1 ⟨rfl, h1⟩
      obtain ⟨a1, a2, a3, a4⟩ := HST.out w1 h1
      go_wp2
      go_ret
      exact ⟨rfl, w1, a4, rfl⟩
end Go.Proofs
