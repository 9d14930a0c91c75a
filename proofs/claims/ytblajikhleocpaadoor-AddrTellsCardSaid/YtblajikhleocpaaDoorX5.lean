/- The text of an address of sixteen bytes. -/
import Derived.Test.YtblajikhleocpaaDoorX4
import Derived.StillTailTactics
import Derived.IntWalk
set_option linter.unusedVariables false
set_option linter.unusedSimpArgs false
namespace Go.Proofs
open Go.Shelf Go.RowKit Go.Sort Go.Lib
open Go.VI (pre4 pre16)

theorem or256 (x y : Nat) (hx : x < 256) (hy : y < 256) : bits BinOp.or IntKind.i64 ((x : Int) * 256) (y : Int) = ((256 * x + y : Nat) : Int) := by
  have e1 : (BitVec.ofInt 64 ((x : Int) * 256) ||| BitVec.ofInt 64 (y : Int)).toNat = 256 * x + y := by
    rw [show ((x : Int) * 256) = ((256 * x : Nat) : Int) by omega, BitVec.toNat_or, BitVec.ofInt_natCast, BitVec.ofInt_natCast, BitVec.toNat_ofNat, BitVec.toNat_ofNat, Nat.mod_eq_of_lt (by omega), Nat.mod_eq_of_lt (by omega)]
    have := Nat.two_pow_add_eq_or_of_lt (i := 8) hy x
    rw [show 2 ^ 8 = 256 from rfl] at this
    exact this.symm
  show IntKind.wrap .i64 (((BitVec.ofInt 64 ((x : Int) * 256) ||| BitVec.ofInt 64 (y : Int)).toNat : Nat) : Int) = _
  rw [e1]
  exact IntWalk.i64_in _ (by omega)
set_option maxHeartbeats 4000000 in
set_option maxRecDepth 100000 in
theorem Tryd.text16 (a : ByteArray) (w : World) (hsz : a.size = 16) (henv : Go.VI.envW w) (hw : 4 ≤ w.heap.size) :
    Calls Tryd.prog 7 #[.string a] w fun e w' => e = .returned (.tuple #[.string ⟨(pre16 a.data.toList 8).toArray⟩, .bool true]) ∧ Below w.heap.size w w' := by
  have h0 : Lib.IsBuilderF 31 5 w.heap.size w.heap.size [] (w.alloc (.cells #[.pointer none, .slice none 0 0] 31)) := Lib.IsBuilderF.of (Lib.fresh_isBuilder 31 5 w)
  have b0 : Below w.heap.size w (w.alloc (.cells #[.pointer none, .slice none 0 0] 31)) := (Below.refl _ w).alloc (Nat.le_refl _) _
  have hfam : ∀ W, Calls Tryd.prog 13 #[.string a] W fun e w' => e = .returned (.int .i64 1) ∧ w' = W := fun W => by
    go_enter Tryd.func13, Tryd.ntmps13
    go_wp2
    go_ret
    exact ⟨rfl, rfl⟩
  go_enter Tryd.func7, Tryd.ntmps7
  go_wp2_with (go_at_call 13; refine (hfam _).mono ?_; rintro e w' ⟨rfl, rfl⟩)
  go_loopw [26] (fun vi wr => ∃ k : Nat, k ≤ 8 ∧ vi = .int .i64 k ∧ Hid (IsBuilderF 31 5 w.heap.size w.heap.size (byteCells (pre16 a.data.toList k)) wr) ∧ Hid (Below w.heap.size w wr)) (fun vi _ => (8 - RowKit.intOf vi).toNat)
  case atStart => exact ⟨0, by omega, rfl, h0, b0⟩
  case round =>
    obtain ⟨k, hk, rfl, HB, HL⟩ := hrel
    rename World => W0
    have henv0 : Hid (Go.VI.envW W0) := env_below henv hw hw HL.out
    have hsz0 : w.heap.size ≤ W0.heap.size := HL.out.size
    by_cases hk4 : k < 8
    · have hka : 2 * k < a.size := by omega
      have hkb : 2 * k + 1 < a.size := by omega
      have step : ∀ (W1 : World) (n : Nat) (l : List UInt8), n < 65536 → IsBuilderF 31 5 w.heap.size w.heap.size (byteCells l) W1 → Below w.heap.size w W1 → Go.VI.envW W1 →
          Calls Tryd.prog 25 #[.int .i64 n, .int .i64 16] W1 fun e W2 => e = .returned (.string ⟨(Go.VI.numR 16 9 n).toArray⟩) ∧ IsBuilderF 31 5 w.heap.size w.heap.size (byteCells l) W2 ∧ Below w.heap.size w W2 := fun W1 n l hn hb hbel he => by
        refine (Tryd.fmtInt16 n hn W1 (env_cell he) (Nat.le_trans hw hbel.size)).mono fun e W2 ⟨h1, q, os, h2⟩ => ?_
        subst h2
        exact ⟨h1, builder_below hb (grow_below W1 q os), hbel.trans ((grow_below W1 q os).mono hbel.size)⟩
      have wr : ∀ (W1 : World) (l m : List UInt8), l.length + m.length ≤ 100000 → IsBuilderF 31 5 w.heap.size w.heap.size (byteCells l) W1 → Below w.heap.size w W1 →
          Calls Tryd.prog 23 #[.pointer (some ⟨w.heap.size, 0, none⟩), .string ⟨m.toArray⟩] W1 fun e W2 => ∃ n, e = .returned (.tuple #[.int .i64 n, .nilIface]) ∧ IsBuilderF 31 5 w.heap.size w.heap.size (byteCells (l ++ m)) W2 ∧ Below w.heap.size w W2 := fun W1 l m hl hb hbel => by
        refine (Tryd.Builder_WriteString_f w.heap.size w.heap.size (byteCells l) ⟨m.toArray⟩ W1 hb (by rw [Lib.byteCells_length]; show l.length + m.toArray.size ≤ _; simp only [List.size_toArray]; omega) hbel.size).mono fun e W2 ⟨h1, h2, h3⟩ => ?_
        refine ⟨_, h1, ?_, hbel.trans h3⟩
        rw [Lib.strCells_eq] at h2
        rw [Lib.byteCells_append]
        exact Or.inr h2
      have hx0 : 0 ≤ (a[2 * k].toNat : Int) := by omega
      have hx1 : (a[2 * k].toNat : Int) ≤ 255 := by have := a[2 * k].toNat_lt; omega
      have hy0 : 0 ≤ (a[2 * k + 1].toNat : Int) := by omega
      have hy1 : (a[2 * k + 1].toNat : Int) ≤ 255 := by have := a[2 * k + 1].toNat_lt; omega
      obtain ⟨x, hx⟩ : ∃ x : UInt8, x = a[2 * k] := ⟨_, rfl⟩
      obtain ⟨y, hy⟩ : ∃ y : UInt8, y = a[2 * k + 1] := ⟨_, rfl⟩
      have iA : ∀ w, (Instr.index 9 (.string a) (.int .i64 (2 * (k : Int)))).run Tryd.prog w = .ok (.int .u8 (x.toNat : Int)) w := fun w => by
        rw [run_index_string w 9 a .i64 _ Tryd.underlying9, dif_pos ⟨by omega, by omega⟩]
        simp only [show (2 * (k : Int)).toNat = 2 * k by omega, hx]
      have iB : ∀ w, (Instr.index 9 (.string a) (.int .i64 (2 * (k : Int) + 1))).run Tryd.prog w = .ok (.int .u8 (y.toNat : Int)) w := fun w => by
        rw [run_index_string w 9 a .i64 _ Tryd.underlying9, dif_pos ⟨by omega, by omega⟩]
        simp only [show (2 * (k : Int) + 1).toNat = 2 * k + 1 by omega, hy]
      rw [← hx] at hx0 hx1
      rw [← hy] at hy0 hy1
      have HX := Lib.hid hx
      have HY := Lib.hid hy
      clear hx hy
      have e1 : IntKind.i64.wrap (2 * (k : Int)) = 2 * (k : Int) := IntWalk.i64_in _ (by omega)
      have e2 : IntKind.i64.wrap (2 * (k : Int) + 1) = 2 * (k : Int) + 1 := IntWalk.i64_in _ (by omega)
      have wx : IntKind.i64.wrap (x.toNat : Int) = (x.toNat : Int) := IntWalk.i64_in _ (by omega)
      have wy : IntKind.i64.wrap (y.toNat : Int) = (y.toNat : Int) := IntWalk.i64_in _ (by omega)
      have wx2 : IntKind.i64.wrap ((x.toNat : Int) * 256) = (x.toNat : Int) * 256 := IntWalk.i64_in _ (by omega)
      have bor : bits BinOp.or IntKind.i64 ((x.toNat : Int) * 256) (y.toNat : Int) = ((256 * x.toNat + y.toNat : Nat) : Int) := or256 _ _ x.toNat_lt y.toNat_lt
      have hpl := pre16_len a.data.toList k
      have hnl : (Go.VI.numR 16 9 (256 * x.toNat + y.toNat)).length ≤ 9 := numR_len _ _ _
      have hgd : ∀ j (h : j < a.size), a.data.toList.getD j 0 = a[j] := fun j h => by
        rw [List.getD_eq_getElem?_getD, List.getElem?_eq_getElem (by simpa using h)]; rfl
      have HP : Hid (pre16 a.data.toList (k + 1) = pre16 a.data.toList k ++ (if k = 0 then [] else [58]) ++ Go.VI.numR 16 9 (256 * a[2 * k].toNat + a[2 * k + 1].toNat)) := by show pre16 _ k ++ _ ++ _ = _; rw [hgd _ hka, hgd _ hkb]
      clear hgd
      have xl := x.toNat_lt
      have yl := y.toNat_lt
      clear wx wy wx2 bor
      by_cases hk0 : k = 0
      · have hn0 : ¬ 0 < (k : Int) := by omega
        have HK0 := Lib.hid hk0
        clear hk0
        go_wp2_with fail
        go_still_tail 13, (by kernel_rfl)
        change wpList _ _ _ _ _ W0.drew
        obtain ⟨Wd, hWd⟩ : ∃ Wd : World, Wd = W0.drew := ⟨_, rfl⟩
        rw [← hWd, show IntKind.i64.wrap (x.toNat : Int) = (x.toNat : Int) from IntWalk.i64_in _ (by omega), show IntKind.i64.wrap ((x.toNat : Int) * 256) = (x.toNat : Int) * 256 from IntWalk.i64_in _ (by omega), show IntKind.i64.wrap (y.toNat : Int) = (y.toNat : Int) from IntWalk.i64_in _ (by omega), or256 _ _ xl yl]
        have HBd : Hid (IsBuilderF 31 5 w.heap.size w.heap.size (byteCells (pre16 a.data.toList k)) Wd) := by rw [hWd]; exact builder_below HB.out ⟨rfl, rfl, rfl, Nat.le_refl _, fun _ _ => rfl⟩
        have HLd : Hid (Below w.heap.size w Wd) := by rw [hWd]; exact HL.out.trans ⟨rfl, rfl, rfl, Nat.le_refl _, fun _ _ => rfl⟩
        have henvd : Hid (Go.VI.envW Wd) := env_below henv hw hw HLd.out
        clear hWd
        go_wp2_with fail
        refine (step _ (256 * x.toNat + y.toNat) _ (by omega) HBd.out HLd.out henvd.out).mono ?_
        rintro e W2 ⟨rfl, hB2, hL2⟩
        have HB2 := Lib.hid hB2
        have HL2 := Lib.hid hL2
        clear hB2 hL2
        go_wp2_with fail
        refine (wr _ _ _ (by first | omega | (rw [List.length_append, List.length_singleton]; omega)) HB2.out HL2.out).mono ?_
        rintro e W3 ⟨n, rfl, hB3, hL3⟩
        have HB3 := Lib.hid hB3
        have HL3 := Lib.hid hL3
        clear hB3 hL3
        go_wp2
        go_roundw
        case rel => exact ⟨k + 1, by omega, by go_num, Lib.hid (by rw [HP.out, ← HX.out, ← HY.out]; rw [if_pos HK0.out, List.append_nil]; exact HB3.out), HL3⟩
        case measure => simp [RowKit.intOf]; omega
      · have hkp : 0 < (k : Int) := by omega
        have hkp' : 1 ≤ (k : Int) := by omega
        go_wp2_with fail
        refine (wr _ (pre16 a.data.toList k) [58] (by simp; omega) HB.out HL.out).mono ?_
        rintro e W1 ⟨n1, rfl, hB1, hL1⟩
        have HB1 := Lib.hid hB1
        have HL1 := Lib.hid hL1
        clear hB1 hL1
        go_wp2_with fail
        go_still_tail 13, (by kernel_rfl)
        change wpList _ _ _ _ _ W1.drew
        obtain ⟨Wd, hWd⟩ : ∃ Wd : World, Wd = W1.drew := ⟨_, rfl⟩
        rw [← hWd, show IntKind.i64.wrap (x.toNat : Int) = (x.toNat : Int) from IntWalk.i64_in _ (by omega), show IntKind.i64.wrap ((x.toNat : Int) * 256) = (x.toNat : Int) * 256 from IntWalk.i64_in _ (by omega), show IntKind.i64.wrap (y.toNat : Int) = (y.toNat : Int) from IntWalk.i64_in _ (by omega), or256 _ _ xl yl]
        have HBd : Hid (IsBuilderF 31 5 w.heap.size w.heap.size (byteCells (pre16 a.data.toList k ++ [58])) Wd) := by rw [hWd]; exact builder_below HB1.out ⟨rfl, rfl, rfl, Nat.le_refl _, fun _ _ => rfl⟩
        have HLd : Hid (Below w.heap.size w Wd) := by rw [hWd]; exact HL1.out.trans ⟨rfl, rfl, rfl, Nat.le_refl _, fun _ _ => rfl⟩
        have henvd : Hid (Go.VI.envW Wd) := env_below henv hw hw HLd.out
        clear hWd
        go_wp2_with fail
        refine (step _ (256 * x.toNat + y.toNat) _ (by omega) HBd.out HLd.out henvd.out).mono ?_
        rintro e W2 ⟨rfl, hB2, hL2⟩
        have HB2 := Lib.hid hB2
        have HL2 := Lib.hid hL2
        clear hB2 hL2
        go_wp2_with fail
        refine (wr _ _ _ (by first | omega | (rw [List.length_append, List.length_singleton]; omega)) HB2.out HL2.out).mono ?_
        rintro e W3 ⟨n, rfl, hB3, hL3⟩
        have HB3 := Lib.hid hB3
        have HL3 := Lib.hid hL3
        clear hB3 hL3
        go_wp2
        go_roundw
        case rel => exact ⟨k + 1, by omega, by go_num, Lib.hid (by rw [HP.out, ← HX.out, ← HY.out]; rw [if_neg hk0]; exact HB3.out), HL3⟩
        case measure => simp [RowKit.intOf]; omega
    · obtain rfl : k = 8 := by omega
      go_wp2_with fail
      refine (Tryd.Builder_String_any_f w.heap.size w.heap.size (pre16 a.data.toList 8) _ HB.out hsz0).mono ?_
      rintro e W1 ⟨rfl, _, hL1⟩
      have HL1 := Lib.hid hL1
      clear hL1
      go_wp2
      go_ret2
      exact ⟨rfl, HL.out.trans HL1.out⟩
set_option maxHeartbeats 4000000 in
theorem Tryd.textNo (a : ByteArray) (w : World) (h4 : ¬ a.size = 4) (h16 : ¬ a.size = 16) (hs : (a.size : Int) ≤ 9223372036854775807) :
    Calls Tryd.prog 7 #[.string a] w fun e w' => e = .returned (.tuple #[.string ⟨#[]⟩, .bool false]) ∧ Below w.heap.size w w' := by
  have n4 : ¬ ((a.size : Int) = 4) := by omega
  have n16 : ¬ ((a.size : Int) = 16) := by omega
  have hfam : ∀ W, Calls Tryd.prog 13 #[.string a] W fun e w' => e = .returned (.int .i64 (-1)) ∧ w' = W := fun W => by
    go_enter Tryd.func13, Tryd.ntmps13
    go_wp2
    go_ret
    exact ⟨rfl, rfl⟩
  go_enter Tryd.func7, Tryd.ntmps7
  go_wp2_with (go_at_call 13; refine (hfam _).mono ?_; rintro e w' ⟨rfl, rfl⟩)
  go_ret2
  exact ⟨rfl, (Below.refl _ w).alloc (Nat.le_refl _) _⟩
end Go.Proofs
namespace Go.VI
open Go Go.Proofs Go.RowKit
theorem x_addr_Text_ok : OkE e_addr_Text := by
  have key : ∀ (s : List UInt8) (r : (List UInt8 × Bool × Unit) × Unit), x_addr_Text (s, ()) = some r → CallOk Tryd.prog U 7 [.val false [.str s]] (sg_addr_Text.out r) := by
    intro s r h
    unfold x_addr_Text at h
    dsimp only at h
    injection h with h
    subst h
    refine ext_ok (callable Tryd.func7 (by kernel_rfl) (by kernel_rfl)) rfl (fun G0 w vs ha henv => ?_)
    obtain ⟨v, rfl, h1⟩ := args1 ha
    have hs : (s.length : Int) ≤ maxLenI := by
      cases h1 with
      | str _ hs => exact hs
      | nil _ e f h1 h2 => cases h1
      | emp _ e p cap h1 => cases h1
      | row _ e css f b off cap h1 => cases h1
    rw [pc_str h1]
    have fin : ∀ (t : List UInt8) (b : Bool), (t.length : Int) ≤ maxLenI → textA s = (t, b) → (Calls Tryd.prog 7 #[.string ⟨⟨s⟩⟩] w fun e w' => e = .returned (.tuple #[.string ⟨t.toArray⟩, .bool b]) ∧ Below w.heap.size w w') →
        Calls Tryd.prog 7 #[.string ⟨⟨s⟩⟩] w fun e w' => ∃ u, e = .returned u ∧ Below w.heap.size w w' ∧ ∃ J : Nat → Nat → Prop, (∀ b o, J b o → w.heap.size ≤ b ∧ (w'.cell? ⟨b, o, none⟩).isSome = true) ∧ RetOk Tryd.prog U w' (fun b o => G0.I b o ∨ J b o) (sg_addr_Text.out (((textA s).1, (textA s).2, ()), ())).ret u := fun t b ht e hc => by
      rw [e]
      refine hc.mono fun en w' ⟨he, hb⟩ => ⟨_, he, hb, fun _ _ => False, fun _ _ h => h.elim, ?_⟩
      refine ⟨_, rfl, rfl, fun j a cs hj => ?_⟩
      match j, hj with
      | 0, hj => injection hj with hj; injection hj with h1 h2; subst h1; subst h2; exact ⟨_, rfl, _, rfl, PC.str _ ht⟩
      | 1, hj => injection hj with hj; injection hj with h1 h2; subst h1; subst h2; exact ⟨_, rfl, _, rfl, PC.bool _⟩
      | j + 2, hj => cases hj
    have hnb : 4 ≤ w.heap.size := henv.size
    by_cases h4 : s.length = 4
    · exact fin (pre4 s 4) true (by have := pre4_len s 4; unfold maxLenI; omega) (by unfold textA; rw [if_pos h4]) (Tryd.text4 ⟨⟨s⟩⟩ w h4 henv.env hnb)
    by_cases h16 : s.length = 16
    · exact fin (pre16 s 8) true (by have := pre16_len s 8; unfold maxLenI; omega) (by unfold textA; rw [if_neg h4, if_pos h16]) (Tryd.text16 ⟨⟨s⟩⟩ w h16 henv.env hnb)
    · exact fin [] false (by simp [maxLenI]) (by unfold textA; rw [if_neg h4, if_neg h16]) (Tryd.textNo ⟨⟨s⟩⟩ w h4 h16 (by unfold maxLenI at hs; exact hs))
  intro x r h
  exact key _ _ h
end Go.VI
