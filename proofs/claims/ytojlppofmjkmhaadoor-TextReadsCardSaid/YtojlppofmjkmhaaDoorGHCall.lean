import Derived.Test.YtojlppofmjkmhaaDoorGHOk
import Derived.Test.YtojlppofmjkmhaaDoorGM0
set_option linter.unusedVariables false
set_option linter.unusedSimpArgs false
namespace Go.VI
open Go Go.Proofs Go.RowKit Go.VP
abbrev noI : Nat → Nat → Prop := fun _ _ => False
theorem noI_cell (w : World) : ∀ b o, noI b o → (w.cell? ⟨b, o, none⟩).isSome = true := fun _ _ h => h.elim
theorem tup_at {w : World} {I : Nat → Nat → Prop} {vs : List (Bool × List (CV U.τ))} {u : Value} (h : RetOk Tryd.prog U w I (.tup vs) u) : ∃ us : Array Value, u = .tuple us ∧ us.size = vs.length ∧ ∀ (j : Nat) a cs, vs[j]? = some (a, cs) → ∃ x, us[j]? = some x ∧ ValOk Tryd.prog U w I a cs x := h
theorem ok_at {f : Nat} {sg : Sig τ} {g : sg.A → Option sg.B} (h : OkE ⟨f, sg, g⟩) (x : sg.A) (r : sg.B) (hx : g x = some r) : CallOk Tryd.prog U f (encArgs sg.ps x) (sg.out r) := h x r hx
theorem two_at {us : Array Value} {x y : Value} (hs : us.size = 2) (h0 : us[0]? = some x) (h1 : us[1]? = some y) : us = #[x, y] := by
  apply Array.ext'
  obtain ⟨l⟩ := us
  match l, hs with
  | [a, b], _ =>
    simp at h0 h1
    rw [h0, h1]
end Go.VI
namespace Go.Proofs
open Go.RowKit Go.Sort Go.Lib
open Go.VI
theorem Tryd.digits_w (s : List UInt8) (w : World) (hs : s.length ≤ 1000000) (henv : envW w) (hw : 4 ≤ w.heap.size) :
    Calls Tryd.prog 40 #[.string ⟨⟨s⟩⟩] w fun e w' => e = .returned (.string ⟨⟨hexs s⟩⟩) ∧ Below w.heap.size w w' := by
  have h := ok_at e_text_digits_ok (s, ()) _ (Go.VP.digits_is (by omega))
  refine (plain_calls (I := noI) h rfl (arg1_str (s := s) (show (s.length : Int) ≤ 9223372036854775807 by omega)) (noI_cell w) henv hw).mono fun e w' ⟨u, he, hb, J, _, hr⟩ => ?_
  rw [ret_str hr] at he
  exact ⟨he, hb⟩
theorem Tryd.word_w (k : Int) (w : World) (hk : -9223372036854775808 ≤ k ∧ k ≤ 9223372036854775807) (henv : envW w) (hw : 4 ≤ w.heap.size) :
    Calls Tryd.prog 11 #[.int .i64 k] w fun e w' => e = .returned (.string ⟨⟨wordM k⟩⟩) ∧ Below w.heap.size w w' := by
  have h := ok_at e_text_Word_ok (k, ()) _ (Go.VP.word_is k)
  refine (plain_calls (I := noI) h rfl (arg1_int hk) (noI_cell w) henv hw).mono fun e w' ⟨u, he, hb, J, _, hr⟩ => ?_
  rw [ret_str hr] at he
  exact ⟨he, hb⟩
theorem Tryd.kind_w (s : List UInt8) (w : World) (hs : s.length ≤ 1000000) (henv : envW w) (hw : 4 ≤ w.heap.size) :
    Calls Tryd.prog 29 #[.string ⟨⟨s⟩⟩] w fun e w' => e = .returned (.int .i64 (kindM s)) ∧ Below w.heap.size w w' := by
  have h := ok_at e_text_kind_ok (s, ()) _ (Go.VP.kind_is s)
  refine (plain_calls (I := noI) h rfl (arg1_str (s := s) (show (s.length : Int) ≤ 9223372036854775807 by omega)) (noI_cell w) henv hw).mono fun e w' ⟨u, he, hb, J, _, hr⟩ => ?_
  rw [ret_int hr] at he
  exact ⟨he, hb⟩
theorem Tryd.bytes_w (s : List UInt8) (w : World) (hs : s.length ≤ 1000000) (henv : envW w) (hw : 4 ≤ w.heap.size) :
    Calls Tryd.prog 49 #[.string ⟨⟨s⟩⟩] w fun e w' => e = .returned (.tuple #[.string ⟨⟨(Go.VP.bytesE s).1⟩⟩, .bool (Go.VP.bytesE s).2]) ∧ Below w.heap.size w w' := by
  have h := ok_at e_text_bytes_ok (s, ()) _ (Go.VP.bytesT_is hs)
  refine (plain_calls (I := noI) h rfl (arg1_str (s := s) (show (s.length : Int) ≤ 9223372036854775807 by omega)) (noI_cell w) henv hw).mono fun e w' ⟨u, he, hb, J, _, hr⟩ => ?_
  obtain ⟨us, rfl, hsz, hat⟩ := tup_at hr
  obtain ⟨x, hx, c, hc, hpc⟩ := hat 0 false _ rfl
  cases hc
  obtain ⟨y, hy, c, hc, hpd⟩ := hat 1 false _ rfl
  cases hc
  rw [two_at hsz hx hy, pc_str hpc, ret_bool hpd] at he
  exact ⟨he, hb⟩
theorem Tryd.dest_w (s : List UInt8) (w : World) (hs : s.length ≤ 1000000) (henv : envW w) (hw : 4 ≤ w.heap.size) :
    Calls Tryd.prog 51 #[.string ⟨⟨s⟩⟩] w fun e w' => e = .returned (.tuple #[.agg #[.string ⟨⟨(Go.VP.destE s).1.addr⟩⟩, .int .i64 (Go.VP.destE s).1.seq], .bool (Go.VP.destE s).2]) ∧ Below w.heap.size w w' := by
  have h := ok_at e_text_dest_ok (s, ()) _ (Go.VP.destT_is hs)
  refine (plain_calls (I := noI) h rfl (arg1_str (s := s) (show (s.length : Int) ≤ 9223372036854775807 by omega)) (noI_cell w) henv hw).mono fun e w' ⟨u, he, hb, J, _, hr⟩ => ?_
  obtain ⟨us, rfl, hsz, hat⟩ := tup_at hr
  obtain ⟨x, hx, vs, rfl, hvs, hv⟩ := hat 0 true _ rfl
  obtain ⟨x0, hx0, hp0⟩ := hv 0 _ rfl
  obtain ⟨x1, hx1, hp1⟩ := hv 1 _ rfl
  obtain ⟨y, hy, c, hc, hpd⟩ := hat 1 false _ rfl
  cases hc
  rw [two_at hsz hx hy, two_at hvs hx0 hx1, pc_str hp0, (pc_int hp1).1, ret_bool hpd] at he
  exact ⟨he, hb⟩
theorem Tryd.sub_w (s : List UInt8) (w : World) (hs : s.length ≤ 1000000) (henv : envW w) (hw : 4 ≤ w.heap.size) :
    Calls Tryd.prog 52 #[.string ⟨⟨s⟩⟩] w fun e w' => e = .returned (.tuple #[.agg #[.int .i64 (Go.VP.subE s).1.type_, .string ⟨⟨(Go.VP.subE s).1.data⟩⟩], .bool (Go.VP.subE s).2]) ∧ Below w.heap.size w w' := by
  have h := ok_at e_text_sub_ok (s, ()) _ (Go.VP.subT_is hs)
  refine (plain_calls (I := noI) h rfl (arg1_str (s := s) (show (s.length : Int) ≤ 9223372036854775807 by omega)) (noI_cell w) henv hw).mono fun e w' ⟨u, he, hb, J, _, hr⟩ => ?_
  obtain ⟨us, rfl, hsz, hat⟩ := tup_at hr
  obtain ⟨x, hx, vs, rfl, hvs, hv⟩ := hat 0 true _ rfl
  obtain ⟨x0, hx0, hp0⟩ := hv 0 _ rfl
  obtain ⟨x1, hx1, hp1⟩ := hv 1 _ rfl
  obtain ⟨y, hy, c, hc, hpd⟩ := hat 1 false _ rfl
  cases hc
  rw [two_at hsz hx hy, two_at hvs hx0 hx1, pc_str hp1, (pc_int hp0).1, ret_bool hpd] at he
  exact ⟨he, hb⟩
theorem Tryd.bare_w (m : XMsg) (us : Array Value) (I : Nat → Nat → Prop) (w : World) (hu : us.size = 25) (hv : ∀ (j : Nat) c, (T_api_Msg.enc false m : List (CV U.τ))[j]? = some c → ∃ x, us[j]? = some x ∧ PC Tryd.prog U w I c x)
    (hi : ∀ b o, I b o → (w.cell? ⟨b, o, none⟩).isSome = true) (henv : envW w) (hw : 4 ≤ w.heap.size) :
    Calls Tryd.prog 16 #[.agg us] w fun e w' => e = .returned (.bool (Go.VP.bareB m)) ∧ Below w.heap.size w w' := by
  have h := ok_at e_msg_Bare_ok (m, ()) _ (Go.VP.bare_is (m := m))
  refine (plain_calls (I := I) h rfl (.val _ _ _ _ _ _ ⟨us, rfl, hu, hv⟩ (.nil _)) hi henv hw).mono fun e w' ⟨u, he, hb, J, _, hr⟩ => ?_
  rw [ret_bool hr] at he
  exact ⟨he, hb⟩
end Go.Proofs
