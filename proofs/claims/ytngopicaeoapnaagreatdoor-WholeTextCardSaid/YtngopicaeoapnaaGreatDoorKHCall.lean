import Derived.Test.YtngopicaeoapnaaGreatDoorKHOk
import Derived.Test.YtngopicaeoapnaaGreatDoorKM0
set_option linter.unusedVariables false
set_option linter.unusedSimpArgs false
namespace Go.VI
open Go Go.Proofs Go.RowKit Go.VP
abbrev noI : Nat → Nat → Prop := fun _ _ => False
theorem bv8 (w : World) : ∀ b o, noI b o → (w.cell? ⟨b, o, none⟩).isSome = true := fun _ _ h => h.elim
theorem dT4 {w : World} {I : Nat → Nat → Prop} {vs : List (Bool × List (CV U.τ))} {u : Value} (h : ay5 Tryz.prog U w I (.tup vs) u) : ∃ us : Array Value, u = .tuple us ∧ us.size = vs.length ∧ ∀ (j : Nat) a cs, vs[j]? = some (a, cs) → ∃ x, us[j]? = some x ∧ ak5 Tryz.prog U w I a cs x := h
theorem cu8 {f : Nat} {sg : Sig τ} {g : sg.A → Option sg.B} (h : OkE ⟨f, sg, g⟩) (x : sg.A) (r : sg.B) (hx : g x = some r) : au8 Tryz.prog U f (ap7 sg.ps x) (sg.out r) := h x r hx
theorem cO5 {us : Array Value} {x y : Value} (hs : us.size = 2) (h0 : us[0]? = some x) (h1 : us[1]? = some y) : us = #[x, y] := by
  apply Array.ext'
  obtain ⟨l⟩ := us
  match l, hs with
  | [a, b], _ =>
    simp at h0 h1
    rw [h0, h1]
end Go.VI
namespace Go.Proofs
open Go.RowKit Go.Sort Go.Lib
open Go.VI
theorem Tryz.digits_w (s : List UInt8) (w : World) (hs : s.length ≤ 1000000) (henv : envW w) (hw : 4 ≤ w.heap.size) :
    Calls Tryz.prog 41 #[.string ⟨⟨s⟩⟩] w fun e w' => e = .returned (.string ⟨⟨ag9 s⟩⟩) ∧ Below w.heap.size w w' := by
  have h := cu8 de7 (s, ()) _ (Go.VP.digits_is (by omega))
  refine (aD3 (I := noI) h rfl (bU7 (s := s) (show (s.length : Int) ≤ 9223372036854775807 by omega)) (bv8 w) henv hw).mono fun e w' ⟨u, he, hb, J, _, hr⟩ => ?_
  rw [ec8 hr] at he
  exact ⟨he, hb⟩
theorem Tryz.word_w (k : Int) (w : World) (hk : -9223372036854775808 ≤ k ∧ k ≤ 9223372036854775807) (henv : envW w) (hw : 4 ≤ w.heap.size) :
    Calls Tryz.prog 15 #[.int .i64 k] w fun e w' => e = .returned (.string ⟨⟨an3 k⟩⟩) ∧ Below w.heap.size w w' := by
  have h := cu8 dw3 (k, ()) _ (Go.VP.word_is k)
  refine (aD3 (I := noI) h rfl (eB3 hk) (bv8 w) henv hw).mono fun e w' ⟨u, he, hb, J, _, hr⟩ => ?_
  rw [ec8 hr] at he
  exact ⟨he, hb⟩
theorem Tryz.kind_w (s : List UInt8) (w : World) (hs : s.length ≤ 1000000) (henv : envW w) (hw : 4 ≤ w.heap.size) :
    Calls Tryz.prog 20 #[.string ⟨⟨s⟩⟩] w fun e w' => e = .returned (.int .i64 (ap1 s)) ∧ Below w.heap.size w w' := by
  have h := cu8 dw4 (s, ()) _ (Go.VP.kind_is s)
  refine (aD3 (I := noI) h rfl (bU7 (s := s) (show (s.length : Int) ≤ 9223372036854775807 by omega)) (bv8 w) henv hw).mono fun e w' ⟨u, he, hb, J, _, hr⟩ => ?_
  rw [eL6 hr] at he
  exact ⟨he, hb⟩
theorem Tryz.bytes_w (s : List UInt8) (w : World) (hs : s.length ≤ 1000000) (henv : envW w) (hw : 4 ≤ w.heap.size) :
    Calls Tryz.prog 46 #[.string ⟨⟨s⟩⟩] w fun e w' => e = .returned (.tuple #[.string ⟨⟨(Go.VP.bytesE s).1⟩⟩, .bool (Go.VP.bytesE s).2]) ∧ Below w.heap.size w w' := by
  have h := cu8 bo4 (s, ()) _ (Go.VP.bytesT_is hs)
  refine (aD3 (I := noI) h rfl (bU7 (s := s) (show (s.length : Int) ≤ 9223372036854775807 by omega)) (bv8 w) henv hw).mono fun e w' ⟨u, he, hb, J, _, hr⟩ => ?_
  obtain ⟨us, rfl, hsz, hat⟩ := dT4 hr
  obtain ⟨x, hx, c, hc, hpc⟩ := hat 0 false _ rfl
  cases hc
  obtain ⟨y, hy, c, hc, hpd⟩ := hat 1 false _ rfl
  cases hc
  rw [cO5 hsz hx hy, aq6 hpc, cu1 hpd] at he
  exact ⟨he, hb⟩
theorem Tryz.dest_w (s : List UInt8) (w : World) (hs : s.length ≤ 1000000) (henv : envW w) (hw : 4 ≤ w.heap.size) :
    Calls Tryz.prog 48 #[.string ⟨⟨s⟩⟩] w fun e w' => e = .returned (.tuple #[.agg #[.string ⟨⟨(Go.VP.destE s).1.addr⟩⟩, .int .i64 (Go.VP.destE s).1.seq], .bool (Go.VP.destE s).2]) ∧ Below w.heap.size w w' := by
  have h := cu8 dw5 (s, ()) _ (Go.VP.destT_is hs)
  refine (aD3 (I := noI) h rfl (bU7 (s := s) (show (s.length : Int) ≤ 9223372036854775807 by omega)) (bv8 w) henv hw).mono fun e w' ⟨u, he, hb, J, _, hr⟩ => ?_
  obtain ⟨us, rfl, hsz, hat⟩ := dT4 hr
  obtain ⟨x, hx, vs, rfl, hvs, hv⟩ := hat 0 true _ rfl
  obtain ⟨x0, hx0, hp0⟩ := hv 0 _ rfl
  obtain ⟨x1, hx1, hp1⟩ := hv 1 _ rfl
  obtain ⟨y, hy, c, hc, hpd⟩ := hat 1 false _ rfl
  cases hc
  rw [cO5 hsz hx hy, cO5 hvs hx0 hx1, aq6 hp0, (ae6 hp1).1, cu1 hpd] at he
  exact ⟨he, hb⟩
theorem Tryz.sub_w (s : List UInt8) (w : World) (hs : s.length ≤ 1000000) (henv : envW w) (hw : 4 ≤ w.heap.size) :
    Calls Tryz.prog 49 #[.string ⟨⟨s⟩⟩] w fun e w' => e = .returned (.tuple #[.agg #[.int .i64 (Go.VP.subE s).1.type_, .string ⟨⟨(Go.VP.subE s).1.data⟩⟩], .bool (Go.VP.subE s).2]) ∧ Below w.heap.size w w' := by
  have h := cu8 dI8 (s, ()) _ (Go.VP.subT_is hs)
  refine (aD3 (I := noI) h rfl (bU7 (s := s) (show (s.length : Int) ≤ 9223372036854775807 by omega)) (bv8 w) henv hw).mono fun e w' ⟨u, he, hb, J, _, hr⟩ => ?_
  obtain ⟨us, rfl, hsz, hat⟩ := dT4 hr
  obtain ⟨x, hx, vs, rfl, hvs, hv⟩ := hat 0 true _ rfl
  obtain ⟨x0, hx0, hp0⟩ := hv 0 _ rfl
  obtain ⟨x1, hx1, hp1⟩ := hv 1 _ rfl
  obtain ⟨y, hy, c, hc, hpd⟩ := hat 1 false _ rfl
  cases hc
  rw [cO5 hsz hx hy, cO5 hvs hx0 hx1, aq6 hp1, (ae6 hp0).1, cu1 hpd] at he
  exact ⟨he, hb⟩
theorem Tryz.bare_w (m : aa2) (us : Array Value) (I : Nat → Nat → Prop) (w : World) (hu : us.size = 25) (hv : ∀ (j : Nat) c, (ab2.enc false m : List (CV U.τ))[j]? = some c → ∃ x, us[j]? = some x ∧ PC Tryz.prog U w I c x)
    (hi : ∀ b o, I b o → (w.cell? ⟨b, o, none⟩).isSome = true) (henv : envW w) (hw : 4 ≤ w.heap.size) :
    Calls Tryz.prog 13 #[.agg us] w fun e w' => e = .returned (.bool (Go.VP.bareB m)) ∧ Below w.heap.size w w' := by
  have h := cu8 al5 (m, ()) _ (Go.VP.bare_is (m := m))
  refine (aD3 (I := I) h rfl (.val _ _ _ _ _ _ ⟨us, rfl, hu, hv⟩ (.nil _)) hi henv hw).mono fun e w' ⟨u, he, hb, J, _, hr⟩ => ?_
  rw [cu1 hr] at he
  exact ⟨he, hb⟩
end Go.Proofs
