import Derived.Test.YtpapfbpefhcobaaV11
/-! Conversions, loads, stores. -/
set_option linter.unusedVariables false
set_option linter.unusedSimpArgs false
namespace Go.VI
open Go

section
variable {P : Program} {U : Univ} {N : Nat} {L0 : Nat → Nat} {G0 : Ghost} {w0 : World} {G : Ghost} {σ : Slots U} {a : Act} {w : World} {o : Oper} {adv : Adv}

theorem modify_push (xs : Array Obj) (x : Obj) (f : Obj → Obj) : (xs.push x).modify xs.size f = xs.push (f x) := by
  apply Array.ext
  · simp
  · intro i h1 h2
    rw [Array.getElem_modify, Array.getElem_push, Array.getElem_push]
    by_cases hi : i < xs.size
    · simp [hi]; omega
    · have : i = xs.size := by simp at h2; omega
      simp [this]

theorem run_stringToBytes (s : List UInt8) (e : TypeId) (hm : (s.length : Int) ≤ maxLenI) : ∃ (cap : Nat) (w' : World), s.length ≤ cap ∧
    (Conv.stringToBytes e ⟨⟨s⟩⟩).run P w = .ok (.slice (some ⟨w.heap.size, 0, none⟩) s.length cap) w' ∧ w'.os = w.os ∧ w'.tape = w.tape ∧ w'.output = w.output ∧
    ∃ cells : Array Value, w'.heap = w.heap.push (.cells cells e (cells.size, cells.size + 1)) ∧ cells.size = cap ∧ ∀ (i : Nat) b, s[i]? = some b → cells[i]? = some (.int .u8 b.toNat) := by
  have hs : (⟨⟨s⟩⟩ : ByteArray).size = s.length := rfl
  let cap := (Question.appendCap s.length 0 e).cut (w.tape w.drawn (Question.appendCap s.length 0 e))
  have hcap : s.length ≤ cap := Nat.le_add_right _ _
  let cells : Array Value := (⟨s⟩ : Array UInt8).map (fun b => Value.int .u8 b.toNat) ++ Array.replicate (cap - s.length) (.int .u8 0)
  have hcs : cells.size = cap := by simp [cells]; omega
  refine ⟨cap, { w with drawn := w.drawn + 1, heap := w.heap.push (.cells cells e (cells.size, cells.size + 1)) }, hcap, ?_, rfl, rfl, rfl, cells, rfl, hcs, fun i b hi => ?_⟩
  · have hsh : ∀ w2 : World, w2.heap = w.heap.push (.cells cells e (0, 0)) → w2.shape? w.heap.size = some (e, cells.size) := fun w2 h2 => by simp [World.shape?, h2]
    have hfr : ({ w with drawn := w.drawn + 1, heap := w.heap.push (.cells cells e (0, 0)) } : World).freeze { block := w.heap.size, off := cells.size } 1 = { w with drawn := w.drawn + 1, heap := w.heap.push (.cells cells e (cells.size, cells.size + 1)) } := by
      simp only [World.freeze]
      rw [if_neg (by omega), modify_push]
      simp
    simp only [Conv.stringToBytes, Sem.run_bind, run_choose, Question.forced, hs, Bool.false_eq_true, if_false, Result.andThen_ok, newRow, run_newObj, Sem.run_pure, markStringish, run_shape]
    rw [hsh _ rfl]
    simp only [run_freeze, Result.andThen_ok]
    rw [← hfr]
  · have hlt := (List.getElem?_eq_some_iff.1 hi).1
    rw [Array.getElem?_append_left (by simpa using hlt)]
    simp [hi]

theorem op_convert (r : R P U N L0 G0 w0 G σ a w) (hd : ∀ d, o.dst = some d → d < N) {s d : TypeId} {x : Operand} (ho : o.op = .convert s d x) {rd : List Nat} {ws : List (Nat × AV U.τ)} (h : Does P U σ (opTree P adv o) rd ws) :
    Goal P U N L0 G0 w0 σ o a w ws := by
  simp only [opTree, ho] at h
  obtain ⟨v, _, h1, h⟩ := r.opd h
  split at h
  · rename_i k j n hs hdd
    refine r.valuePC hd ?_ h (.int _ _ (IntKind.has_wrap _ _))
    simp [execOp, ho, Go.convert, h1.int.1, run_underlying hs, run_underlying hdd, Conv.intToInt]
  · rename_i t hs hdd
    refine r.valuePC hd ?_ h (.str _ h1.str.2)
    simp [execOp, ho, Go.convert, h1.str.1, run_underlying hs, run_underlying hdd]
  · rename_i e t hs hdd
    obtain ⟨hu8, h⟩ := Does.of_cond h
    obtain ⟨g1, g2, g3, _⟩ := isU8_ok hu8
    obtain ⟨cap, w', k1, k2, k3, k4, k5, cells, k6, k7, k8⟩ := run_stringToBytes (P := P) (w := w) t e h1.str.2
    have hrun : (execOp a.eval o).run P w = .ok (.value (.slice (some ⟨w.heap.size, 0, none⟩) t.length cap)) w' := by
      simp [execOp, ho, Go.convert, h1.str.1, run_underlying hs, run_underlying hdd, run_underlying g3, k2]
    cases hdst : o.dst with
    | none => rw [hdst] at h; exact h.of_fail.elim
    | some dd =>
      rw [hdst] at h
      unfold Goal Goes
      rw [hrun, hdst]
      cases hmut : memNat dd adv.mutb with
      | true =>
        simp only [hmut, cond_true] at h
        obtain ⟨_, h⟩ := h.of_read
        cases hσ : σ dd <;> rw [hσ] at h <;> first | exact h.of_fail.elim | skip
        have := h.of_done
        subst this
        exact r.newBytes (hd dd hdst) hσ g1 h1.str.2 k8 k1 (by omega) (fun hq => by cases hq) (fun o h1 h2 => h1) k6 k3 k4 k5
      | false =>
        simp only [hmut, cond_false] at h
        rcases h.of_wr with ⟨h2, _⟩ | ⟨d', h2, h3, h4⟩
        · cases h2
        · injection h2 with h2; subst h2
          rw [h3]
          have hh := k6
          refine ⟨_, r.fresh (imm := fun o => o < t.length) (wh := some (dd, none)) k6 k3 k4 k5 (hd dd hdst) h4 (fun o ho => by omega) (.inr ?_)⟩
          have hlen : (t.map fun b => ([.int .u8 b.toNat] : List (CV U.τ))).length = t.length := List.length_map _
          refine ⟨e, t.map fun b => [.int .u8 b.toNat], rfl, by rw [hlen]; exact h1.str.2, .inr ⟨w.heap.size, 0, cap, by rw [hlen], by rw [hlen]; exact k1, ?_, .inr ⟨if_pos rfl, cells, e, _, by rw [heap_push k6, if_pos rfl], by rw [g1]; omega, fun o h1 h2 => h1, fun o h1 h2 hI => ?_⟩⟩⟩
          · have get : ∀ (i : Nat) (cs : List (CV U.τ)), (t.map fun b => ([.int .u8 b.toNat] : List (CV U.τ)))[i]? = some cs → ∃ b, t[i]? = some b ∧ cs = [.int .u8 b.toNat] := fun i cs hi => by
              rw [List.getElem?_map] at hi
              cases hti : t[i]? with
              | none => rw [hti] at hi; cases hi
              | some b => rw [hti] at hi; injection hi with hi; exact ⟨b, rfl, hi.symm⟩
            rw [g1]
            refine ⟨fun i cs hi => by obtain ⟨b, _, rfl⟩ := get i cs hi; rfl, fun i cs j y hi hj => ?_, fun i cs j y hi hj => ?_⟩
            · obtain ⟨b, hb, rfl⟩ := get i cs hi
              have := (List.getElem?_eq_some_iff.1 hb).1
              cases j with
              | zero => exact .inr ⟨rfl, by omega⟩
              | succ j => simp at hj
            · obtain ⟨b, hb, rfl⟩ := get i cs hi
              cases j with
              | zero =>
                simp at hj; subst hj
                exact ⟨_, by rw [Nat.zero_add, Nat.mul_one, Nat.add_zero, cell_push_new k6]; exact k8 i b hb, .int _ _ (has_u8 b)⟩
              | succ j => simp at hj
          · rw [hlen, g1] at h1
            rcases hI with hI | ⟨_, hI⟩
            · exact r.notI o hI
            · omega
  · rename_i v2 e hs hdd
    obtain ⟨hu8, h⟩ := Does.of_cond h
    obtain ⟨g1, g2, g3, _⟩ := isU8_ok hu8
    have main : ∀ v' rd', Opd (P := P) G σ w x v' (a.eval x) → Does P U σ (rdBytes v' fun s => wr o.dst (.one (.str s))) rd' ws → (∀ s, v' ≠ .one (.str s)) → Goal P U N L0 G0 w0 σ o a w ws := by
      intro v' rd' h1 h hne
      obtain ⟨s', _, hw, hm, ⟨h2, _⟩ | ⟨h2, q, cap, h3⟩ | ⟨b, off, cap, h2, h3⟩⟩ := rdBytes_ok r h1 h
      · exact absurd h2 (hne _)
      · refine r.valuePC hd ?_ hw (.str _ hm)
        subst h2
        cases q with
        | none =>
          simp [execOp, ho, Go.convert, h3, run_underlying hs, run_underlying hdd, run_underlying g3, Conv.bytesToString]
          rfl
        | some p =>
          have hld : (loadCells p 0).run P w = .ok #[] w := rfl
          simp [execOp, ho, Go.convert, h3, run_underlying hs, run_underlying hdd, run_underlying g3, Conv.bytesToString, hld]
          rfl
      · refine r.valuePC hd ?_ hw (.str _ hm)
        simp [execOp, ho, Go.convert, h2, run_underlying hs, run_underlying hdd, run_underlying g3, run_toString s' b off cap h3]
    split at h
    · exact h.of_fail.elim
    · rename_i hne
      exact main _ _ h1 h (fun s he => hne s he)
  · exact h.of_fail.elim

theorem BoxRel.cells {I : Nat → Nat → Prop} {who : Nat → Option (Nat × Option Nat)} {s : Nat} {p : Nat × Nat} {cs : List (CV U.τ)} (h : BoxRel P U w I who s p cs) : ∀ (j : Nat) c, cs[j]? = some c → ∃ y, w.cell? ⟨p.1, p.2 + j, none⟩ = some y ∧ CellOk P U w I who (s, some j) c y := by
  obtain ⟨c, T, fz, h1, h2, h3, h4⟩ := h.row
  intro j x hj
  obtain ⟨u, hu, hk⟩ := h4 j x hj
  exact ⟨u, by rw [cell_of_row h1]; exact hu, hk⟩

/-- What may be appended to goes from a box's cell to a slot. -/
theorem R.loadApp (r : R P U N L0 G0 w0 G σ a w) {s off d : Nat} {cs : List (CV U.τ)} {c : CV U.τ} {e : Nat} {css : List (List (CV U.τ))} {u : Value} (hs : σ s = .box cs) (hx : cs[off]? = some c) (hu : w.cell? ⟨(G.loc s).1, (G.loc s).2 + off, none⟩ = some u) (hc : cont c = some (e, css, .app)) (hd : d < N) (ho : (σ d).owner = false) :
    ∃ G', R P U N L0 G0 w0 G' (upd (upd σ d (.one c)) s (.box (cs.set off c.plain))) (a.put (some d) u) w := by
  have hsd : s ≠ d := fun he => by subst he; rw [hs] at ho; cases ho
  have hbox := r.slots s
  rw [hs] at hbox
  obtain ⟨hb1, hb2⟩ := hbox
  have happ : AppOk P U w G.I G.who (s, some off) c u := by
    obtain ⟨y, hy, hk⟩ := hb2.cells off c hx
    rw [hu] at hy; injection hy with hy; subst hy
    rcases hk with hk | hk
    · exact absurd rfl (hk.slice hc).1
    · exact hk
  have hp := happ.plain
  have hn : ∀ t, (σ t).owner = true → t ≠ d := fun t ht he => by rw [he, ho] at ht; cases ht
  let G' : Ghost := ⟨G.I, G.loc, fun b => if G.who b = some (s, some off) then some (d, none) else G.who b⟩
  have same : ∀ t, t ≠ d → t ≠ s → (upd (upd σ d (.one c)) s (.box (cs.set off c.plain))) t = σ t := fun t h1 h2 => by simp [upd, h1, h2]
  have at_s : (upd (upd σ d (.one c)) s (.box (cs.set off c.plain))) s = .box (cs.set off c.plain) := by simp [upd]
  have x : Ext (fun L => L = (s, some off)) G G' σ (upd (upd σ d (.one c)) s (.box (cs.set off c.plain))) w w := by
    refine ⟨fun _ _ h => ⟨h, rfl⟩, fun b L h hL => ⟨?_, rfl, fun _ h => h⟩, fun _ _ => rfl, fun t cs' ht => ?_, fun t e y q ht => ?_⟩
    · show (if G.who b = some (s, some off) then some (d, none) else G.who b) = some L
      rw [if_neg (fun he => hL (by rw [h] at he; injection he)), h]
    · by_cases hts : t = s
      · rw [hts]; exact ⟨_, at_s⟩
      · exact ⟨cs', by rw [same t (hn t (by rw [ht]; rfl)) hts, ht]⟩
    · have hts : t ≠ s := fun he => by rw [he, hs] at ht; cases ht
      exact ⟨e, y, by rw [same t (hn t (by rw [ht]; rfl)) hts, ht], rfl⟩
  have st : Step G w G' w := by
    refine ⟨rfl, rfl, rfl, Nat.le_refl _, fun _ _ _ => rfl, fun _ _ h => ⟨h, rfl⟩, fun _ _ h => .inl h, fun b L h => .inr ?_⟩
    have h' : (if G.who b = some (s, some off) then some (d, none) else G.who b) = some L := h
    split at h'
    · rename_i hh; simp [hh]
    · simp [h']
  refine ⟨G', r.go x st rfl (by simp [Act.put]) (fun _ _ => rfl) (fun b o h => .inl h) (fun b L h => .inl ?_) (fun t cs' ht hσ => ?_) (fun t => ?_)⟩
  · have h' : (if G.who b = some (s, some off) then some (d, none) else G.who b) = some L := h
    split at h'
    · rename_i hh; exact ⟨_, hh⟩
    · exact ⟨_, h'⟩
  · have h1 : t ≠ d := fun he => by have := r.small; omega
    by_cases hts : t = s
    · rw [hts] at hσ ht ⊢
      rw [at_s] at hσ
      injection hσ with hσ
      exact ⟨cs, hs, by rw [← hσ, List.length_set], fun _ _ => rfl⟩
    · rw [same t h1 hts] at hσ
      exact ⟨cs', hσ, rfl, fun _ _ => rfl⟩
  · rw [getD_put (Nat.lt_of_lt_of_le hd r.size)]
    by_cases hts : t = s
    · right
      rw [hts, at_s, if_neg hsd]
      refine ⟨hb1, ?_⟩
      obtain ⟨k1, k2, k3⟩ := x.own (G.loc s).1 (s, none) hb2.hwho (by simp)
      obtain ⟨cc, T, fz, h1, h2, h3, h4⟩ := hb2.row
      refine ⟨k1, hb2.himm, cc, T, fz, h1, by rw [List.length_set]; exact h2, h3, fun i y hi => ?_⟩
      by_cases hio : i = off
      · subst hio
        have hlt := (List.getElem?_eq_some_iff.1 hx).1
        rw [List.getElem?_set_self hlt] at hi
        injection hi with hi; subst hi
        refine ⟨u, ?_, .inl hp⟩
        rw [← cell_of_row h1]; exact hu
      · rw [List.getElem?_set_ne (Ne.symm hio)] at hi
        obtain ⟨y', hy', hk⟩ := h4 i y hi
        exact ⟨y', hy', hk.mono x (fun he => hio (by injection he with _ h2; injection h2))⟩
    · by_cases htd : t = d
      · right
        have h1 : (upd (upd σ d (.one c)) s (.box (cs.set off c.plain))) t = .one c := by rw [htd]; simp [upd, Ne.symm hsd]
        rw [h1, if_pos htd]
        have h3 : AppOk P U w G'.I G'.who (t, none) c u := by
          obtain ⟨e', css', k1, k2, k3⟩ := happ
          refine ⟨e', css', k1, k2, ?_⟩
          rcases k3 with k3 | ⟨b, off', cap, k4, k5, k6, k7⟩
          · exact .inl k3
          · refine .inr ⟨b, off', cap, k4, k5, k6, ?_⟩
            rcases k7 with k7 | ⟨k7, k8⟩
            · exact .inl k7
            · exact .inr ⟨by show (if G.who b = some (s, some off) then some (d, none) else G.who b) = _; rw [if_pos k7, htd], k8⟩
        cases c <;> first | (simp [cont] at hc; done) | exact .inr h3
      · left
        refine ⟨same t htd hts, by rw [if_neg htd], (fun he => by injection he with h1 h2; cases h2), (fun i he => hts (by injection he))⟩

theorem oneCellT_ok {t : TypeId} (h : oneCellT P t = true) : ∃ d, P.underlying t = some d ∧ rowT d = false := by
  unfold oneCellT at h
  split at h
  · cases h
  · cases h
  · rename_i d h1 h2 hu
    exact ⟨d, hu, by cases d <;> first | rfl | exact absurd hu (by simp_all)⟩
  · cases h

theorem op_load (r : R P U N L0 G0 w0 G σ a w) (hd : ∀ d, o.dst = some d → d < N) {t : TypeId} {x : Operand} (ho : o.op = .load t x) {rd : List Nat} {ws : List (Nat × AV U.τ)} (h : Does P U σ (opTree P adv o) rd ws) :
    Goal P U N L0 G0 w0 σ o a w ws := by
  simp only [opTree, ho] at h
  obtain ⟨hz, h⟩ := Does.of_cond h
  have hz := Nat.le_of_ble_eq_true hz
  obtain ⟨v, _, h1, h⟩ := r.opd h
  cases v with
  | one c =>
    cases c with
    | ref s off =>
      obtain ⟨⟨cs, hs⟩, hp⟩ := h1.ref
      obtain ⟨_, h⟩ := h.of_read
      rw [hs] at h
      simp only at h
      have hbox := r.slots s
      rw [hs] at hbox
      cases hpart : partOf P t cs off with
      | none => rw [hpart] at h; exact h.of_fail.elim
      | some v =>
        rw [hpart] at h
        simp only at h
        obtain ⟨k1, u, k2, k3, k4⟩ := loadVar_ok (σ := σ) (G := G) (w := w) hpart hz (b := (G.loc s).1) (base := (G.loc s).2) (fun j c hj => by
          obtain ⟨y, hy, hk⟩ := hbox.2.cells j c hj
          exact ⟨y, hy, hk.plain⟩)
        have hrun : (execOp a.eval o).run P w = .ok (.value u) w := by simp [execOp, ho, Instr.loadAt, hp, Instr.sureAddr, k2]
        cases hg : given adv o.dst v with
        | true =>
          rw [hg] at h
          obtain ⟨d, c, e, css, g1, g2, g3⟩ := given_ok hg
          obtain ⟨g4, g5⟩ := k4 c g2
          simp only [cond_true] at h
          rcases h.of_wr with ⟨m1, _⟩ | ⟨d', m1, m2, m3⟩
          · rw [g1] at m1; cases m1
          · unfold Goal Goes
            rw [hrun, m1, m2, g2]
            exact r.loadApp hs g4 g5 g3 (hd d' m1) m3
        | false =>
          rw [hg] at h
          exact r.value hd hrun h k1 k3
    | eref s i =>
      obtain ⟨⟨e, y, q, hs⟩, hp⟩ := h1.eref
      obtain ⟨_, h⟩ := h.of_read
      rw [hs] at h
      obtain ⟨u, hu, h⟩ := h.of_opt
      have hblk := r.slots s
      rw [hs] at hblk
      obtain ⟨c, T, fz, k1, k2, k3, k4⟩ := hblk.2.row
      -- the type is one cell
      obtain ⟨hz1, h⟩ := Does.of_cond h
      obtain ⟨dsc, hu', hr⟩ := oneCellT_ok hz1
      refine r.valuePC hd (u := .int .u8 u.toNat) ?_ h (.int _ _ (has_u8 u))
      have hcell : w.cell? ⟨(G.loc s).1, (G.loc s).2 + i, none⟩ = some (.int .u8 u.toNat) := by rw [cell_of_row k1]; exact k4 i u hu
      simp [execOp, ho, Instr.loadAt, hp, Instr.sureAddr, loadVar, run_isAgg' hu', hr, hcell]
    | _ => exact h.of_fail.elim
  | im cs =>
    obtain ⟨b, off, hp, hc⟩ := h1.im
    simp only at h
    cases hpart : partOf P t cs 0 with
    | none => rw [hpart] at h; exact h.of_fail.elim
    | some v =>
      rw [hpart] at h
      obtain ⟨k1, u, k2, k3, k4⟩ := loadVar_ok (σ := σ) (G := G) (w := w) hpart hz (b := b) (base := off) (fun j c hj => by
        obtain ⟨_, y, hy, hk⟩ := hc j c hj
        exact ⟨y, hy, hk.plain⟩)
      rw [Nat.add_zero] at k2
      exact r.value hd (by simp [execOp, ho, Instr.loadAt, hp, Instr.sureAddr, k2]) h k1 k3
  | _ => exact h.of_fail.elim

end
end Go.VI
