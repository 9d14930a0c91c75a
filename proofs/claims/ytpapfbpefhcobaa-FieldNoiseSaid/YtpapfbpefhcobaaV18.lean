import Derived.Test.YtpapfbpefhcobaaV17
/-! A call, carried out. -/
set_option linter.unusedVariables false
set_option linter.unusedSimpArgs false
namespace Go.VI
open Go

section
variable {P : Program} {U : Univ} {N : Nat} {L0 : Nat → Nat} {G0 : Ghost} {w0 : World} {G : Ghost} {σ : Slots U} {a : Act} {w : World} {o : Oper} {adv : Adv}

theorem takeCells_len {cs l : List (CV U.τ)} {off : Nat} (h : off + l.length ≤ cs.length) (hl : l = (cs.drop off).take l.length) (j : Nat) (hj : j < l.length) : l[j]? = cs[off + j]? := by
  have h1 : l[j]? = ((cs.drop off).take l.length)[j]? := by rw [← hl]
  rw [h1, List.getElem?_take, if_pos hj, getElem?_drop']

/-- The state behind a call. -/
theorem R.called (r : R P U N L0 G0 w0 G σ a w) {bs : Bs U} {ps : List (List (CV U.τ))} (hn : (bs.map (·.1)).Nodup) (hlen : ps.length = bs.length) (hσ : ∀ q ∈ bs, σ q.1 = .box q.2.2)
    (hps : ∀ (m : Nat) q l, bs[m]? = some q → ps[m]? = some l → q.2.1 + l.length ≤ q.2.2.length ∧ l = (q.2.2.drop q.2.1).take l.length)
    {lens : Nat → Nat} (hlens : ∀ (j : Nat) l, ps[j]? = some l → lens j = l.length)
    {G' : Ghost} {w' : World} (hst : Step ⟨G.I, locC G bs, whoC G bs lens⟩ w G' w') {outs : List (List (CV U.τ))} (holen : outs.length = bs.length)
    (hbox : ∀ (j : Nat) cs, outs[j]? = some cs → BoxRel P U w' G'.I G'.who (vbase + j) (locC G bs (vbase + j)) cs)
    (hrest : ∀ (j : Nat) cs, ps[j]? = some cs → (∃ l, outs[j]? = some l ∧ l.length = cs.length) ∧ ∀ o, (o < (locC G bs (vbase + j)).2 ∨ (locC G bs (vbase + j)).2 + cs.length ≤ o) → w'.cell? ⟨(locC G bs (vbase + j)).1, o, none⟩ = w.cell? ⟨(locC G bs (vbase + j)).1, o, none⟩)
    (himm : ∀ b o, G'.I b o → (w'.cell? ⟨b, o, none⟩).isSome = true) (hwho : ∀ b L, G'.who b = some L → b < w'.heap.size) :
    ∃ G2, R P U N L0 G0 w0 G2 (updsσ σ (backs bs outs)) a w' ∧ G2.I = G'.I := by
  let G2 : Ghost := ⟨G'.I, G.loc, whoB G G' bs lens w.heap.size⟩
  have hloc : ∀ (j : Nat) q, bs[j]? = some q → locC G bs (vbase + j) = ((G.loc q.1).1, (G.loc q.1).2 + q.2.1) := fun j q hj => by
    simp [locC, hj]
  have hout : ∀ (j : Nat) q, bs[j]? = some q → ∃ p l, ps[j]? = some p ∧ outs[j]? = some l ∧ l.length = p.length := fun j q hj => by
    have hlt := (List.getElem?_eq_some_iff.1 hj).1
    have hp : ps[j]? = some ps[j] := List.getElem?_eq_getElem (by omega)
    obtain ⟨⟨l, h1, h2⟩, _⟩ := hrest j _ hp
    exact ⟨_, l, hp, h1, h2⟩
  have hinj : ∀ (i j : Nat) p q, bs[i]? = some p → bs[j]? = some q → p.1 = q.1 → i = j ∧ p = q := fun i j p q hi hj he => by
    have h1 := bsIdx_of hn hi
    have h2 := bsIdx_of hn hj
    rw [he, h2] at h1
    injection h1 with h1
    subst h1
    rw [hi] at hj; injection hj with hj
    exact ⟨rfl, hj⟩
  -- what the callee had nothing to do with
  have noC : ∀ b L, G.who b = some L → ¬ Lent bs lens L → whoC G bs lens b = none := fun b L h hL => whoC_not h hL
  have noG' : ∀ b, b < w.heap.size → whoC G bs lens b = none → G'.who b = none := fun b hb hw => by
    cases hx : G'.who b with
    | none => rfl
    | some L =>
      rcases hst.newW b L hx with h | h
      · omega
      · have h' : (whoC G bs lens b).isSome = true := h
        rw [hw] at h'; cases h'
  have keepW : ∀ b L, G.who b = some L → ¬ Lent bs lens L → G2.who b = some L := fun b L h hL => by
    have hb := r.who b L h
    have h1 := noC b L h hL
    have h2 := noG' b hb h1
    show whoB G G' bs lens w.heap.size b = some L
    simp only [whoB, h2, h1, Option.isSome_none, Bool.false_eq_true, if_false, if_pos hb, h]
  have toW : ∀ b (j : Nat) x q, G'.who b = some (vbase + j, x) → bs[j]? = some q → G2.who b = some (q.1, x.map (q.2.1 + ·)) := fun b j x q h hj => by
    show whoB G G' bs lens w.heap.size b = _
    have e : vbase + j - vbase = j := by omega
    simp only [whoB, h, Nat.le_add_right, if_true, e, hj]
    cases x <;> rfl
  have hx : Ext (Lent bs lens) G G2 σ (updsσ σ (backs bs outs)) w w' := by
    refine ⟨fun b o h => hst.imm b o h, fun b L h hL => ⟨keepW b L h hL, hst.old b (r.who b L h) (noC b L h hL), fun o hI => ?_⟩, fun _ _ => rfl, fun s cs hs => ?_, fun s e y q hs => ?_⟩
    · rcases hst.newI b o hI with h1 | h1 | h1
      · exact h1
      · have := r.who b L h; omega
      · have h' : (whoC G bs lens b).isSome = true := h1
        rw [noC b L h hL] at h'; cases h'
    · by_cases hb : ∃ q ∈ bs, q.1 = s
      · obtain ⟨q, hq, hqs⟩ := hb
        obtain ⟨j, hj⟩ := List.mem_iff_getElem?.1 hq
        obtain ⟨p, l, _, hl, _⟩ := hout j q hj
        exact ⟨_, (backs_get hn holen σ s).1 j q l hj hl hqs⟩
      · exact ⟨cs, by rw [(backs_get hn holen σ s).2 (fun q hq he => hb ⟨q, hq, he⟩), hs]⟩
    · have : ∀ q ∈ bs, q.1 ≠ s := fun q hq he => by have := hσ q hq; rw [he, hs] at this; cases this
      exact ⟨e, y, by rw [(backs_get hn holen σ s).2 this, hs], rfl⟩
  have hstep : Step G w G2 w' := by
    refine ⟨hst.os, hst.tape, hst.output, hst.size, fun b hb hw => hst.old b hb ?_, fun b o h => hst.imm b o h, fun b o h => ?_, fun b L h => ?_⟩
    · show whoC G bs lens b = none
      simp [whoC, hw]
    · rcases hst.newI b o h with h1 | h1 | h1
      · exact .inl h1
      · exact .inr (.inl h1)
      · exact .inr (.inr (whoC_isSome h1))
    · have h' : whoB G G' bs lens w.heap.size b = some L := h
      unfold whoB at h'
      cases hg : G'.who b with
      | some L' =>
        rcases hst.newW b L' hg with h1 | h1
        · exact .inl h1
        · exact .inr (whoC_isSome h1)
      | none =>
        rw [hg] at h'
        simp only at h'
        split at h'
        · cases h'
        · split at h'
          · exact .inr (by rw [h']; rfl)
          · cases h'
  refine ⟨G2, r.go hx hstep rfl rfl (fun _ _ => rfl) (fun b o h => .inr (himm b o h)) (fun b L h => ?_) (fun t cs' ht hσ' => ?_) (fun t => ?_), rfl⟩
  · have h' : whoB G G' bs lens w.heap.size b = some L := h
    unfold whoB at h'
    cases hg : G'.who b with
    | some L' => exact .inr (hwho b L' hg)
    | none =>
      rw [hg] at h'
      simp only at h'
      split at h'
      · cases h'
      · split at h'
        · exact .inl ⟨L, h'⟩
        · cases h'
  · by_cases hb : ∃ q ∈ bs, q.1 = t
    · obtain ⟨q, hq, hqs⟩ := hb
      obtain ⟨j, hj⟩ := List.mem_iff_getElem?.1 hq
      obtain ⟨p, l, hp, hl, hll⟩ := hout j q hj
      rw [(backs_get hn holen σ t).1 j q l hj hl hqs] at hσ'
      injection hσ' with hσ'
      obtain ⟨_, h2⟩ := hrest j p hp
      obtain ⟨h3, _⟩ := hps j q p hj hp
      rw [hloc j q hj] at h2
      refine ⟨q.2.2, by rw [← hqs]; exact hσ q hq, by rw [← hσ', setCells_length], fun o ho => ?_⟩
      rw [← hqs] at ho ⊢
      refine h2 o ?_
      simp only
      omega
    · rw [(backs_get hn holen σ t).2 (fun q hq he => hb ⟨q, hq, he⟩)] at hσ'
      refine ⟨cs', hσ', rfl, fun o _ => ?_⟩
      have hbx := r.slots t
      rw [hσ'] at hbx
      have hw := hbx.2.hwho
      have hL : ¬ Lent bs lens (t, none) := fun ⟨j, q, hj, he, _⟩ => hb ⟨q, List.mem_of_getElem? hj, he.symm⟩
      have := hst.old (G.loc t).1 (r.who _ _ hw) (noC _ _ hw hL)
      simp only [World.cell?, this]
  · by_cases hb : ∃ q ∈ bs, q.1 = t
    · right
      obtain ⟨q, hq, hqs⟩ := hb
      obtain ⟨j, hj⟩ := List.mem_iff_getElem?.1 hq
      obtain ⟨p, l, hp, hl, hll⟩ := hout j q hj
      obtain ⟨h3, h3'⟩ := hps j q p hj hp
      rw [(backs_get hn holen σ t).1 j q l hj hl hqs]
      have hbx := r.slots t
      have hσt : σ t = .box q.2.2 := by rw [← hqs]; exact hσ q hq
      rw [hσt] at hbx
      obtain ⟨hb1, hb2⟩ := hbx
      have hcb := hbox j l hl
      rw [hloc j q hj, hqs] at hcb
      obtain ⟨_, hr2⟩ := hrest j p hp
      rw [hloc j q hj, hqs] at hr2
      simp only at hr2
      obtain ⟨c, T, fz, k1, k2, k3, k4⟩ := hb2.row
      obtain ⟨c', T', fz', m1, m2, m3, m4⟩ := hcb.row
      simp only at m1 m2 m4
      show (t < vbase → _) ∧ BoxRel P U w' G2.I G2.who t (G.loc t) _
      refine ⟨hb1, ?_, hcb.himm, c', T', fz', m1, ?_, m3, fun i x hi => ?_⟩
      · have := toW _ j none q hcb.hwho hj
        rw [this, hqs]; rfl
      · -- the row is as long as it was
        rw [setCells_length]
        rcases Nat.eq_zero_or_pos q.2.2.length with h0 | h0
        · -- nothing in it: the row exists
          have hp0 : p.length = 0 := by omega
          rw [h0, Nat.add_zero]
          have : (G.loc t).2 + q.2.1 + l.length ≤ c'.size := m2
          omega
        · -- the last cell is there
          have key : (w'.cell? ⟨(G.loc t).1, (G.loc t).2 + (q.2.2.length - 1), none⟩).isSome = true := by
            by_cases hin : q.2.1 ≤ q.2.2.length - 1 ∧ q.2.2.length - 1 < q.2.1 + p.length
            · rw [cell_of_row m1, Array.getElem?_eq_getElem (by omega)]; rfl
            · rw [hr2 _ (by omega), cell_of_row k1, Array.getElem?_eq_getElem (by omega)]; rfl
          rw [cell_of_row m1] at key
          obtain ⟨u, hu⟩ := Option.isSome_iff_exists.1 key
          have := (Array.getElem?_eq_some_iff.1 hu).1
          omega
      · rw [setCells_get _ _ _ _ (by omega)] at hi
        rw [← cell_of_row m1]
        split at hi
        · rename_i hc
          obtain ⟨u, hu, hk⟩ := m4 (i - q.2.1) x hi
          refine ⟨u, ?_, ?_⟩
          · rw [cell_of_row m1, ← hu]; congr 1; omega
          · rcases hk with hk | ⟨e, css, n1, n2, n3⟩
            · exact .inl hk
            · refine .inr ⟨e, css, n1, n2, ?_⟩
              rcases n3 with n3 | ⟨b, off, cap, n4, n5, n6, n7⟩
              · exact .inl n3
              · refine .inr ⟨b, off, cap, n4, n5, n6, ?_⟩
                rcases n7 with n7 | ⟨n7, n8⟩
                · exact .inl n7
                · refine .inr ⟨?_, n8⟩
                  have := toW _ j _ q n7 hj
                  rw [this, hqs]
                  simp only [Option.map_some]
                  rw [show q.2.1 + (i - q.2.1) = i by omega]
        · rename_i hc
          obtain ⟨u, hu, hk⟩ := k4 i x hi
          refine ⟨u, ?_, hk.mono hx ?_⟩
          · rw [hr2 _ (by omega), cell_of_row k1]; exact hu
          · rintro ⟨j', q', hj', he, hh⟩
            obtain ⟨rfl, rfl⟩ := hinj j j' q q' hj hj' (by rw [hqs]; exact he)
            have := hh i rfl
            rw [hlens j p hp] at this
            omega
    · left
      refine ⟨(backs_get hn holen σ t).2 (fun q hq he => hb ⟨q, hq, he⟩), rfl, ?_, ?_⟩
      · rintro ⟨j, q, hj, he, _⟩; exact hb ⟨q, List.mem_of_getElem? hj, he.symm⟩
      · rintro i ⟨j, q, hj, he, _⟩; exact hb ⟨q, List.mem_of_getElem? hj, he.symm⟩

theorem RetOk.slot {I : Nat → Nat → Prop} {v : AV U.τ} {u : Value} {G2 : Ghost} {σ2 : Slots U} (hI : G2.I = I) (h : RetOk P U w I v u) : v.owner = false ∧ ∀ t, SlotOk P U G2 σ2 w t v u := by
  cases v with
  | one c => exact ⟨rfl, fun t => SlotOk.of_pc (by rw [hI]; exact h)⟩
  | agg cs => exact ⟨rfl, fun t => by rw [← hI] at h; exact h⟩
  | tup vs => exact ⟨rfl, fun t => by rw [← hI] at h; exact h⟩
  | _ => exact h.elim

theorem op_call (r : R P U N L0 G0 w0 G σ a w) (hd : ∀ d, o.dst = some d → d < N) {c : Call} {f : Operand} (ho : o.op = .call c) (hb : c.callee = .value f) {rd : List Nat} {ws : List (Nat × AV U.τ)} (h : Does P U σ (opTree P adv o) rd ws) :
    Goal P U N L0 G0 w0 σ o a w ws := by
  obtain ⟨callee, args, argTypes⟩ := c
  simp only at hb
  subst hb
  simp only [opTree, ho] at h
  obtain ⟨c, _, h1, h⟩ := r.opd1 h
  cases c with
  | fn k =>
    simp only at h
    cases hfn : P.funcs[k]? with
    | none => rw [hfn] at h; exact h.of_fail.elim
    | some fn =>
      rw [hfn] at h
      obtain ⟨hsz, h⟩ := Does.of_cond h
      have hsz := Nat.eq_of_beq_eq_true hsz
      obtain ⟨as, bs, _, h, hn, hlen, hσ, hps, hrel⟩ := argsT_ok r _ h
      obtain ⟨out, ⟨hcallable, hcall⟩, h⟩ := h.of_call
      obtain ⟨hbl, h⟩ := Does.of_cond h
      have hbl := Nat.eq_of_beq_eq_true hbl
      let lens : Nat → Nat := fun j => ((ptrs as)[j]?.map List.length).getD 0
      have hlens : ∀ (j : Nat) l, (ptrs as)[j]? = some l → lens j = l.length := fun j l hl => by simp [lens, hl]
      have hloc : ∀ (j : Nat) q, bs[j]? = some q → locC G bs (vbase + j) = ((G.loc q.1).1, (G.loc q.1).2 + q.2.1) := fun j q hj => by simp [locC, hj]
      have hargs := hrel (whoC G bs lens) (locC G bs) 0 (fun m q l hm hl => by
        rw [Nat.zero_add]
        refine ⟨?_, hloc m q hm⟩
        rw [hloc m q hm]
        obtain ⟨k1, k2⟩ := hps m q l hm hl
        have hbx := r.slots q.1
        rw [hσ q (List.mem_of_getElem? hm)] at hbx
        obtain ⟨c, T, fz, m1, m2, m3, m4⟩ := hbx.2.row
        refine ⟨whoC_none (lens := lens) hn hm hbx.2.hwho, hbx.2.himm, c, T, fz, m1, by simp only; omega, m3, fun i x hi => ?_⟩
        have hil := (List.getElem?_eq_some_iff.1 hi).1
        rw [takeCells_len k1 k2 i hil] at hi
        obtain ⟨u, hu, hk⟩ := m4 _ x hi
        refine ⟨u, by simp only; rw [Nat.add_assoc]; exact hu, ?_⟩
        rcases hk with hk | ⟨e, css, n1, n2, n3⟩
        · exact .inl hk
        · refine .inr ⟨e, css, n1, n2, ?_⟩
          rcases n3 with n3 | ⟨b, off, cap, n4, n5, n6, n7⟩
          · exact .inl n3
          · refine .inr ⟨b, off, cap, n4, n5, n6, ?_⟩
            rcases n7 with n7 | ⟨n7, n8⟩
            · exact .inl n7
            · refine .inr ⟨?_, n8⟩
              rw [whoC_some hn hm n7 (by omega) (by rw [hlens m l hl]; omega)]
              congr 3
              omega)
      have hvals : ((fn.params.toList.zip args.toList).map fun p => a.eval p.2) = (args.map a.eval).toList := by
        rw [Array.toList_map]
        have h2 : (fn.params.toList.zip args.toList).map (fun p => a.eval p.2) = ((fn.params.toList.zip args.toList).map Prod.snd).map a.eval := by rw [List.map_map]; rfl
        rw [h2, List.map_snd_zip (by simp [hsz])]
      rw [hvals] at hargs
      have hC := hcall ⟨G.I, locC G bs, whoC G bs lens⟩ w _ hargs r.imm (fun b L hw => by
        have : (G.who b).isSome = true := whoC_isSome (bs := bs) (lens := lens) (by show (whoC G bs lens b).isSome = true; rw [show whoC G bs lens b = some L from hw]; rfl)
        obtain ⟨L', hL'⟩ := Option.isSome_iff_exists.1 this
        exact r.who b L' hL')
      have hrun : (execOp a.eval o).run P w = .ok (.enter k (args.map a.eval)) w := by
        have he := h1.fn
        have := hcallable (args.map a.eval) w
        simp [execOp, ho, resolve, he, Deferred.ofValue, invoke, this]
      unfold Goal Goes
      rw [hrun]
      simp only
      have harr : (args.map a.eval).toList.toArray = args.map a.eval := by simp only [Array.toArray_toList]
      rw [harr] at hC
      refine hC.mono fun e w' ⟨u, G', he, g1, g2, g3, g4, g5, g6, g7⟩ => ⟨u, he, ?_⟩
      obtain ⟨G2, hR, hI⟩ := r.called hn hlen hσ hps hlens g1 (by rw [g3, hlen]) g4 g5 g6 g7
      obtain ⟨k1, k2⟩ := RetOk.slot (G2 := G2) (σ2 := updsσ σ (backs bs out.boxes)) hI g2
      rcases h.of_wr with ⟨m1, m2⟩ | ⟨d, m1, m2, m3⟩
      · rw [m1, m2]; exact ⟨G2, hR⟩
      · rw [m1, m2]
        have hdq : ∀ q ∈ bs, q.1 ≠ d := fun q hq he => by have := hσ q hq; rw [he] at this; rw [this] at m3; cases m3
        have hat : updsσ σ (backs bs out.boxes) d = σ d := (backs_get hn (by rw [g3, hlen]) σ d).2 hdq
        have := hR.put (hd d m1) (by rw [hat]; exact m3) k1 k2
        refine ⟨G2, ?_⟩
        have e1 : updsσ σ ((d, out.ret) :: backs bs out.boxes) = upd (updsσ σ (backs bs out.boxes)) d out.ret := by
          funext z
          simp only [updsσ]
          by_cases hz : ∃ q ∈ bs, q.1 = z
          · obtain ⟨q, hq, hqz⟩ := hz
            have hzd : z ≠ d := fun he => hdq q hq (by rw [hqz, he])
            obtain ⟨j, hj⟩ := List.mem_iff_getElem?.1 hq
            have hlt := (List.getElem?_eq_some_iff.1 hj).1
            have hl : out.boxes[j]? = some out.boxes[j] := List.getElem?_eq_getElem (by omega)
            rw [(backs_get hn (by rw [g3, hlen]) (upd σ d out.ret) z).1 j q _ hj hl hqz]
            simp only [upd, hzd, if_false]
            rw [(backs_get hn (by rw [g3, hlen]) σ z).1 j q _ hj hl hqz]
          · rw [(backs_get hn (by rw [g3, hlen]) (upd σ d out.ret) z).2 (fun q hq he => hz ⟨q, hq, he⟩)]
            simp only [upd]
            rw [(backs_get hn (by rw [g3, hlen]) σ z).2 (fun q hq he => hz ⟨q, hq, he⟩)]
        rw [e1]
        exact this
  | _ => exact h.of_fail.elim

end
end Go.VI
