import Derived.Test.YtpapfbpefhcobaaV15
/-! append and calls as operations. -/
set_option linter.unusedVariables false
set_option linter.unusedSimpArgs false
namespace Go.VI
open Go

section
variable {P : Program} {U : Univ} {N : Nat} {L0 : Nat → Nat} {G0 : Ghost} {w0 : World} {G : Ghost} {σ : Slots U} {a : Act} {w : World} {o : Oper} {adv : Adv}

theorem op_append (r : R P U N L0 G0 w0 G σ a w) (hd : ∀ d, o.dst = some d → d < N) {c : Call} (ho : o.op = .call c) (hb : c.callee = .builtin .append) {rd : List Nat} {ws : List (Nat × AV U.τ)} (h : Does P U σ (opTree P adv o) rd ws) :
    Goal P U N L0 G0 w0 σ o a w ws := by
  obtain ⟨callee, args, argTypes⟩ := c
  simp only at hb
  subst hb
  simp only [opTree, ho] at h
  split at h
  · rename_i s x t u ha ht
    have ha' : args = #[s, x] := by cases args; simp_all
    have ht' : argTypes = #[t, u] := by cases argTypes; simp_all
    subst ha'; subst ht'
    split at h
    · rename_i e hu
      obtain ⟨hb, h⟩ := Does.of_cond h
      simp only [Bool.and_eq_true] at hb
      obtain ⟨⟨⟨⟨hz, hb1⟩, hb2⟩, hzero⟩, hsrc⟩ := hb
      have hz := Nat.le_of_ble_eq_true hz
      have hb1 := Nat.le_of_ble_eq_true hb1
      have hb2 := Nat.le_of_ble_eq_true hb2
      cases hdst : o.dst with
      | none => rw [hdst] at h; exact h.of_fail.elim
      | some d =>
        rw [hdst] at h
        obtain ⟨v, _, h1, h⟩ := r.opd h
        obtain ⟨v2, _, h2, h⟩ := r.opd h
        have hex : ∀ v w', (∀ ty, (Builtin.append_ #[t, u] ty #[a.eval s, a.eval x]).run P w = .ok v w') → (execOp a.eval o).run P w = .ok (.value v) w' := by
          intro v w' hr
          simp [execOp, ho, resolve, invoke, builtin, hr]
        have hdN := hd d hdst
        cases v with
        | one c =>
          cases c with
          | sl e1 xs f =>
            cases v2 with
            | one c2 =>
              cases c2 with
              | sl e2 ys f2 =>
                simp only [appendT] at h
                cases hdec : Nat.decEq e2 e1 with
                | isFalse _ => rw [hdec] at h; exact h.of_fail.elim
                | isTrue he =>
                  rw [hdec] at h
                  subst he
                  obtain ⟨hbe, h⟩ := Does.of_cond h
                  have hbe := Nat.eq_of_beq_eq_true hbe
                  obtain ⟨hroom, h⟩ := h.of_guard
                  have hroom := roomB_ok hroom
                  rw [Int.natCast_mul] at hroom
                  have hsx : ∃ us, Src P U w G.I (P.cellsOf e2) (a.eval x) (ys.map (U.enc e2)) us := by
                    obtain ⟨_, ⟨g2, g3⟩ | ⟨_, g2, p, cap, g3⟩ | ⟨b, off, cap, g2, g3, g4, g5⟩⟩ := h2.slice (css := ys.map (U.enc e2)) (e := e2) (f := f2) rfl
                    · rw [g2, g3]; exact ⟨[], Src.of_nil⟩
                    · rw [g2, g3]; exact ⟨[], Src.of_nil⟩
                    · obtain ⟨us, g6⟩ := Src.of_slice (cap := cap) g5
                      rw [← g2] at g6
                      exact ⟨us, g6⟩
                  obtain ⟨us, hsx⟩ := hsx
                  rw [← hbe] at hu hz hb1 hb2 hzero hroom
                  exact appGo r hdN hu hsrc hz hb1 hb2 hzero h1 (css := xs.map (U.enc e2)) (dss := ys.map (U.enc e2)) (f := f) rfl (by simp [cont]) (fun hf => by rw [hf]; rfl) hsx (by simpa using hroom) hdst hex h
              | _ => exact h.of_fail.elim
            | _ => exact h.of_fail.elim
          | bs e1 t1 f =>
            simp only [appendT] at h
            obtain ⟨hbe, h⟩ := Does.of_cond h
            simp only [Bool.and_eq_true] at hbe
            have hbe1 := Nat.eq_of_beq_eq_true hbe.1
            obtain ⟨hsz, hbb, _⟩ := isU8_ok hbe.2
            obtain ⟨y, _, h, _, hsx⟩ := rdBytes_src r h2 h
            obtain ⟨hroom, h⟩ := h.of_guard
            have hroom := roomB_ok hroom
            rw [← hbe1] at hu hz hb1 hb2 hzero hsz hbb
            rw [← hsz] at hsx
            exact appGo r hdN hu hsrc hz hb1 hb2 hzero h1 (css := t1.map fun b => [.int .u8 b.toNat]) (dss := y.map fun b => [.int .u8 b.toNat]) (f := f) rfl (by simp [cont]) (fun hf => by rw [hf]; rfl) hsx (by rw [hbb]; simpa using hroom) hdst hex h
          | sref q =>
            simp only [appendT] at h
            obtain ⟨_, h⟩ := h.of_read
            obtain ⟨e0, y0, q0, cap, hs, hu', hl, hq⟩ := h1.sref
            rw [hs] at h
            cases q0 with
            | false => exact h.of_fail.elim
            | true =>
              obtain ⟨hbe, h⟩ := Does.of_cond h
              simp only [Bool.and_eq_true] at hbe
              have hbe1 := Nat.eq_of_beq_eq_true hbe.1
              obtain ⟨hsz, hbb, _⟩ := isU8_ok hbe.2
              obtain ⟨y, _, h, _, hsx⟩ := rdBytes_src r h2 h
              cases y with
              | nil => exact h.of_fail.elim
              | cons b y =>
                obtain ⟨hroom, h⟩ := h.of_guard
                have hroom := roomB_ok hroom
                have hblk := r.slots q
                rw [hs] at hblk
                obtain ⟨cc, T, fz, k1, k2, k3, k4⟩ := hblk.2.row
                have hsrc1 : Src P U w G.I 1 (a.eval s) (y0.map fun b => [.int .u8 b.toNat]) (y0.map fun b => .int .u8 b.toNat) := by
                  rw [hu']
                  exact Src.of_bytes y0 (fun i z hz => by rw [cell_of_row k1]; exact k4 i z hz)
                rw [← hbe1] at hu hz hb1 hb2 hzero hsz hbb
                obtain ⟨z, hzr, hzs⟩ : ∃ z, (∀ w : World, (zeroValue e0).run P w = .ok z w) ∧ z.cells.size = P.cellsOf e0 := by
                  obtain ⟨_, _, _, i, hi, hz0, _⟩ := isU8_ok (P := P) (e := e0) (by rw [hbe1]; exact hbe.2)
                  exact ⟨.int .u8 0, fun w => by simp [zeroValue, typeInfo, hi, hz0], by rw [hsz]; rfl⟩
                have hcap := hq rfl
                have hl1 : (y0.map fun b => ([.int .u8 b.toNat] : List (CV U.τ))).length = y0.length := List.length_map _
                have hl2 : ((b :: y).map fun b => ([.int .u8 b.toNat] : List (CV U.τ))).length = (b :: y).length := List.length_map _
                rw [← hsz] at hsrc1 hsx
                have hall : ∃ newCap w', y0.length + (b :: y).length ≤ newCap ∧ (∀ ty, (Builtin.append_ #[t, u] ty #[a.eval s, a.eval x]).run P w = .ok (.slice (some ⟨w.heap.size, 0, none⟩) (y0.length + (b :: y).length) newCap) w') ∧
                    w'.os = w.os ∧ w'.tape = w.tape ∧ w'.output = w.output ∧ ∃ cells : Array Value, w'.heap = w.heap.push (.cells cells e0) ∧ cells.size = newCap * P.cellsOf e0 ∧ ∀ (q : Nat) u, ((y0.map fun (b : UInt8) => Value.int .u8 b.toNat) ++ ((b :: y).map fun (b : UInt8) => Value.int .u8 b.toNat))[q]? = some u → cells[q]? = some u := by
                  have := run_append_out (ty := 0) hu hsrc hz hb2 (cap := cap) (base := some ⟨(G.loc q).1, (G.loc q).2, none⟩) (by rw [hl1]; exact hu') hsrc1 hsx (by rw [hl1, hl2]; simp; omega) (by rw [hl1, hl2, hbb]; simpa using hroom) (by rw [hl1, hl2]; simpa using hroom) hzr hzs
                  rw [hl1, hl2] at this
                  obtain ⟨nc, w', g1, g2, g3⟩ := this
                  exact ⟨nc, w', g1, fun ty => g2, g3⟩
                obtain ⟨nc, w', g1, g2, g3, g4, g5, cells, g6, g7, g8⟩ := hall
                unfold Goal Goes
                rw [hex _ w' g2, hdst]
                rcases h.of_wr with ⟨m1, _⟩ | ⟨d', m1, m2, m3⟩
                · cases m1
                · injection m1 with m1; subst m1
                  rw [m2]
                  have hf := hsrc1.flat.append hsx.flat
                  have hcc : cont (U := U) (.bs e0 (y0 ++ b :: y) .app) = some (e0, (y0.map fun (b : UInt8) => ([.int .u8 b.toNat] : List (CV U.τ))) ++ ((b :: y).map fun (b : UInt8) => ([.int .u8 b.toNat] : List (CV U.τ))), .app) := by simp [cont]
                  have hl3 : ((y0.map fun (b : UInt8) => ([.int .u8 b.toNat] : List (CV U.τ))) ++ ((b :: y).map fun (b : UInt8) => ([.int .u8 b.toNat] : List (CV U.τ)))).length = y0.length + (b :: y).length := by rw [List.length_append, hl1, hl2]
                  have := r.grow hdN m3 hcc hf (by rw [hl3]; unfold roomI at hroom; unfold maxLenI; omega) (cap := nc) (by rw [hl3]; exact g1) g3 g4 g5 g6 g7 g8
                  rw [hl3] at this
                  exact this
          | _ => exact h.of_fail.elim
        | _ => cases v2 <;> exact h.of_fail.elim
    · exact h.of_fail.elim
  · exact h.of_fail.elim

end
end Go.VI
