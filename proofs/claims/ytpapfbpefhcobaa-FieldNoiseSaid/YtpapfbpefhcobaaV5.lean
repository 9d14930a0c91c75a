import Derived.Test.YtpapfbpefhcobaaV4
/-! Arithmetic, and what reads no memory. -/
set_option linter.unusedVariables false
set_option linter.unusedSimpArgs false
namespace Go.VI
open Go

section
variable {P : Program} {U : Univ} {N : Nat} {L0 : Nat → Nat} {G0 : Ghost} {w0 : World} {G : Ghost} {σ : Slots U} {a : Act} {w : World} {o : Oper} {adv : Adv}

theorem ibits_and (k : IntKind) (x y : Int) (w : World) : (Op.intBits .and k x y).run P w = .ok (.int k (ibits .and k x y)) w := rfl
theorem ibits_or (k : IntKind) (x y : Int) (w : World) : (Op.intBits .or k x y).run P w = .ok (.int k (ibits .or k x y)) w := rfl
theorem ibits_xor (k : IntKind) (x y : Int) (w : World) : (Op.intBits .xor k x y).run P w = .ok (.int k (ibits .xor k x y)) w := rfl
theorem ibits_andNot (k : IntKind) (x y : Int) (w : World) : (Op.intBits .andNot k x y).run P w = .ok (.int k (ibits .andNot k x y)) w := rfl

theorem has_ibits (op : BinOp) (k : IntKind) (x y : Int) : k.has (ibits op k x y) := by
  cases op <;> exact IntKind.has_wrap _ _

theorem two_pow_pos (m : Nat) : (0 : Int) < 2 ^ m := by exact_mod_cast Nat.pow_pos (by omega : 0 < 2)

theorem has_fdiv (k : IntKind) (x : Int) (m : Nat) (h : k.has x) : k.has (x.fdiv (2 ^ m)) := by
  have h2 := two_pow_pos m
  rw [Int.fdiv_eq_ediv_of_nonneg x (by omega)]
  unfold IntKind.has IntKind.min IntKind.max at *
  have lo : ∀ b : Int, b ≤ 0 → b ≤ x → b ≤ x / 2 ^ m := fun b hb hx => by
    rw [Int.le_ediv_iff_mul_le h2]
    have : b * 2 ^ m ≤ b * 1 := Int.mul_le_mul_of_nonpos_left hb (by omega)
    omega
  have hi : ∀ b : Int, 0 ≤ b → x ≤ b → x / 2 ^ m ≤ b := fun b hb hx => by
    apply Int.le_of_lt_add_one
    rw [Int.ediv_lt_iff_lt_mul h2]
    have : (b + 1) * 1 ≤ (b + 1) * 2 ^ m := Int.mul_le_mul_of_nonneg_left (by omega) (by omega)
    omega
  cases k <;> simp only [IntKind.bits, IntKind.signed] at * <;> simp at * <;> exact ⟨lo _ (by omega) h.1, hi _ (by omega) h.2⟩

theorem tmod_between (x y : Int) : (0 ≤ x → 0 ≤ x.tmod y ∧ x.tmod y ≤ x) ∧ (x ≤ 0 → x ≤ x.tmod y ∧ x.tmod y ≤ 0) := by
  have key : ∀ x : Int, 0 ≤ x → 0 ≤ x.tmod y ∧ x.tmod y ≤ x := fun x hx => by
    have h1 := Int.tmod_nonneg y hx
    have h2 := Int.natAbs_tmod x y
    have h3 := Nat.mod_le x.natAbs y.natAbs
    omega
  refine ⟨key x, fun hx => ?_⟩
  have h := key (-x) (by omega)
  rw [Int.neg_tmod] at h
  omega

theorem has_tmod (k : IntKind) (x y : Int) (h : k.has x) : k.has (x.tmod y) := by
  have := tmod_between x y
  unfold IntKind.has IntKind.min IntKind.max at *
  cases k <;> simp only [IntKind.bits, IntKind.signed] at * <;> simp at * <;> omega

theorem ishl_run (k j : IntKind) (x y : Int) (h : 0 ≤ y) (w : World) : (Op.shift .shl k x j y).run P w = .ok (.int k (ishl k x y)) w := by
  unfold Op.shift ishl
  rw [if_neg (by omega)]
  rfl

theorem ishr_run (k j : IntKind) (x y : Int) (h : 0 ≤ y) (w : World) : (Op.shift .shr k x j y).run P w = .ok (.int k (ishr k x y)) w := by
  unfold Op.shift ishr
  rw [if_neg (by omega)]
  rfl

/-- A Go operator on two operands: what it comes to. -/
theorem binT_ok (r : R P U N L0 G0 w0 G σ a w) {t : TypeId} {op : BinOp} {x y : Operand} {v1 v2 : AV U.τ} (h1 : Opd (P := P) G σ w x v1 (a.eval x)) (h2 : Opd (P := P) G σ w y v2 (a.eval y)) {k : CV U.τ → Tree U} {rd : List Nat} {ws : List (Nat × AV U.τ)}
    (h : Does P U σ (binT P t op v1 v2 k) rd ws) :
    ∃ c u rd', Does P U σ (k c) rd' ws ∧ PC P U w G.I c u ∧ (eqGuard op t x y (a.eval x) (a.eval y)).run P w = .ok () w ∧ (Go.binOp op t (a.eval x) (a.eval y)).run P w = .ok u w := by
  have int2 : ∀ i j a1 b1, v1 = .one (.int i a1) → v2 = .one (.int j b1) → ∃ c u rd', Does P U σ (k c) rd' ws ∧ PC P U w G.I c u ∧ (eqGuard op t x y (a.eval x) (a.eval y)).run P w = .ok () w ∧ (Go.binOp op t (a.eval x) (a.eval y)).run P w = .ok u w := by
    intro i j a1 b1 e1 e2
    subst e1; subst e2
    obtain ⟨e1, hi⟩ := h1.int
    obtain ⟨e2, hj⟩ := h2.int
    rw [e1, e2]
    have hg := eqGuard_none (P := P) op t x y (.int i a1) (.int j b1) (by simp) (by simp) w
    simp only [binT] at h
    by_cases hl : op = .shl
    · subst hl
      obtain ⟨hp, h⟩ := h.of_guard
      exact ⟨_, _, rd, h, .int _ _ (IntKind.has_wrap _ _), hg, ishl_run i j a1 b1 hp w⟩
    · by_cases hr : op = .shr
      · subst hr
        obtain ⟨hp, h⟩ := h.of_guard
        exact ⟨_, _, rd, h, .int _ _ (has_fdiv _ _ _ hi), hg, ishr_run i j a1 b1 hp w⟩
      · have h' : decide (i = j) = true ∧ ∃ c u rd', Does P U σ (k c) rd' ws ∧ PC P U w G.I c u ∧ (match op with
            | .add | .sub | .mul => Op.intArith op i a1 b1
            | .quo | .rem => Op.intDiv op i a1 b1
            | .and | .or | .xor | .andNot => Op.intBits op i a1 b1
            | _ => Op.intCmp op a1 b1).run P w = .ok u w := by
          cases op <;> first | (exact absurd rfl hl) | (exact absurd rfl hr) | (obtain ⟨hd, h⟩ := Does.of_cond h; refine ⟨hd, ?_⟩)
          · exact ⟨_, _, rd, h, .int _ _ (IntKind.has_wrap _ _), rfl⟩
          · exact ⟨_, _, rd, h, .int _ _ (IntKind.has_wrap _ _), rfl⟩
          · exact ⟨_, _, rd, h, .int _ _ (IntKind.has_wrap _ _), rfl⟩
          · obtain ⟨hp, h⟩ := h.of_guard
            exact ⟨_, _, rd, h, .int _ _ (IntKind.has_wrap _ _), by simp [Op.intDiv, hp]⟩
          · obtain ⟨hp, h⟩ := h.of_guard
            exact ⟨_, _, rd, h, .int _ _ (has_tmod _ _ _ hi), by simp [Op.intDiv, hp]⟩
          · exact ⟨_, _, rd, h, .int _ _ (has_ibits _ _ _ _), rfl⟩
          · exact ⟨_, _, rd, h, .int _ _ (has_ibits _ _ _ _), rfl⟩
          · exact ⟨_, _, rd, h, .int _ _ (has_ibits _ _ _ _), rfl⟩
          · exact ⟨_, _, rd, h, .int _ _ (has_ibits _ _ _ _), rfl⟩
          · exact ⟨_, _, rd, h, .bool _, rfl⟩
          · exact ⟨_, _, rd, h, .bool _, rfl⟩
          · exact ⟨_, _, rd, h, .bool _, rfl⟩
          · exact ⟨_, _, rd, h, .bool _, rfl⟩
          · exact ⟨_, _, rd, h, .bool _, rfl⟩
          · exact ⟨_, _, rd, h, .bool _, rfl⟩
        obtain ⟨hd, c, u, rd', g1, g2, g3⟩ := h'
        have hij : i = j := of_decide_eq_true hd
        subst hij
        exact ⟨c, u, rd', g1, g2, hg, by rw [run_int_op op t i a1 b1 hl hr]; exact g3⟩
  have str2 : ∀ a1 b1, v1 = .one (.str a1) → v2 = .one (.str b1) → ∃ c u rd', Does P U σ (k c) rd' ws ∧ PC P U w G.I c u ∧ (eqGuard op t x y (a.eval x) (a.eval y)).run P w = .ok () w ∧ (Go.binOp op t (a.eval x) (a.eval y)).run P w = .ok u w := by
    intro a1 b1 e1 e2
    subst e1; subst e2
    obtain ⟨e1, hi⟩ := h1.str
    obtain ⟨e2, hj⟩ := h2.str
    rw [e1, e2]
    have hg := eqGuard_none (P := P) op t x y (.string ⟨⟨a1⟩⟩) (.string ⟨⟨b1⟩⟩) (by simp) (by simp) w
    simp only [binT] at h
    have heq : ((⟨⟨a1⟩⟩ : ByteArray).toList == (⟨⟨b1⟩⟩ : ByteArray).toList) = (a1 == b1) := by rw [ByteArray.toList_eq, ByteArray.toList_eq]
    cases op <;> simp only at h <;> first | exact h.of_fail.elim | skip
    · obtain ⟨hp, h⟩ := h.of_guard
      have hp := maxB_ok hp
      refine ⟨_, _, rd, h, .str _ (by rw [List.length_append]; unfold maxLenI at *; omega), hg, ?_⟩
      have : (⟨⟨a1 ++ b1⟩⟩ : ByteArray) = ⟨⟨a1⟩⟩ ++ ⟨⟨b1⟩⟩ := (ByteArray.mk_append_mk a1 b1).symm
      rw [this]
      have hs : ∀ l : List UInt8, (⟨⟨l⟩⟩ : ByteArray).size = l.length := fun _ => rfl
      exact run_string_add_sum w _ _ (by rw [hs, hs]; unfold maxLenI at hp; omega)
    · refine ⟨_, _, rd, h, .bool _, hg, ?_⟩
      simp only [Go.binOp, Op.stringOp, heq]; rfl
    · refine ⟨_, _, rd, h, .bool _, hg, ?_⟩
      simp only [Go.binOp, Op.stringOp, heq]; rfl
  have bool2 : ∀ a1 b1, v1 = .one (.bool a1) → v2 = .one (.bool b1) → ∃ c u rd', Does P U σ (k c) rd' ws ∧ PC P U w G.I c u ∧ (eqGuard op t x y (a.eval x) (a.eval y)).run P w = .ok () w ∧ (Go.binOp op t (a.eval x) (a.eval y)).run P w = .ok u w := by
    intro a1 b1 e1 e2
    subst e1; subst e2
    rw [h1.bool, h2.bool]
    have hg := eqGuard_none (P := P) op t x y (.bool a1) (.bool b1) (by simp) (by simp) w
    simp only [binT] at h
    obtain ⟨hb, h⟩ := Does.of_cond h
    have hu : P.underlying t = some .bool := by
      cases hx : P.underlying t with
      | none => rw [hx] at hb; cases hb
      | some d => rw [hx] at hb; cases d <;> first | rfl | cases hb
    have he := run_equalIn_bool' (P := P) w 9999 t a1 b1 hu
    cases op <;> simp only at h <;> first | exact h.of_fail.elim | skip
    · exact ⟨_, _, rd, h, .bool _, hg, by simp [Go.binOp, Op.equal, Op.maxDepth, he]⟩
    · exact ⟨_, _, rd, h, .bool _, hg, by simp [Go.binOp, Op.equal, Op.maxDepth, he]⟩
  have agg2 : ∀ a1 b1, v1 = .agg a1 → v2 = .agg b1 → ∃ c u rd', Does P U σ (k c) rd' ws ∧ PC P U w G.I c u ∧ (eqGuard op t x y (a.eval x) (a.eval y)).run P w = .ok () w ∧ (Go.binOp op t (a.eval x) (a.eval y)).run P w = .ok u w := by
    intro a1 b1 e1 e2
    subst e1; subst e2
    have g1 := h1.agg
    have g2 := h2.agg
    simp only [binT] at h
    cases hq : aggEq P t a1 b1 with
    | none => rw [hq] at h; cases op <;> exact h.of_fail.elim
    | some q =>
      rw [hq] at h
      obtain ⟨us, vs, e1, e2, he, hr⟩ := aggEq_ok hq g1 g2
      rw [e1, e2] at hr ⊢
      have hg := eqGuard_agg (P := P) op t x y us vs he w
      cases op <;> simp only at h <;> first | exact h.of_fail.elim | skip
      · exact ⟨_, _, rd, h, .bool _, hg, by rw [run_eql_struct, hr]; rfl⟩
      · exact ⟨_, _, rd, h, .bool _, hg, by rw [run_neq_struct, hr]; rfl⟩
  cases v1 with
  | one c1 =>
    cases v2 with
    | one c2 =>
      cases c1 <;> cases c2 <;> first | (exact int2 _ _ _ _ rfl rfl) | (exact str2 _ _ rfl rfl) | (exact bool2 _ _ rfl rfl) | exact h.of_fail.elim
    | _ => cases c1 <;> exact h.of_fail.elim
  | agg a1 =>
    cases v2 with
    | agg b1 => exact agg2 _ _ rfl rfl
    | _ => exact h.of_fail.elim
  | _ => exact h.of_fail.elim

theorem op_bin (r : R P U N L0 G0 w0 G σ a w) (hd : ∀ d, o.dst = some d → d < N) {op : BinOp} {t yt : TypeId} {x y : Operand} (ho : o.op = .binOp op t x y yt) {rd : List Nat} {ws : List (Nat × AV U.τ)} (h : Does P U σ (opTree P adv o) rd ws) :
    Goal P U N L0 G0 w0 σ o a w ws := by
  simp only [opTree, ho] at h
  obtain ⟨v1, _, h1, h⟩ := r.opd h
  obtain ⟨v2, _, h2, h⟩ := r.opd h
  obtain ⟨c, u, _, hw, hpc, hg, hr⟩ := binT_ok r h1 h2 h
  exact r.valuePC hd (by simp [execOp, ho, hg, hr]) hw hpc

theorem op_un (r : R P U N L0 G0 w0 G σ a w) (hd : ∀ d, o.dst = some d → d < N) {op : UnOp} {t : TypeId} {x : Operand} (ho : o.op = .unOp op t x) {rd : List Nat} {ws : List (Nat × AV U.τ)} (h : Does P U σ (opTree P adv o) rd ws) :
    Goal P U N L0 G0 w0 σ o a w ws := by
  simp only [opTree, ho] at h
  obtain ⟨c, _, h1, h⟩ := r.opd1 h
  cases c with
  | bool b =>
    cases op <;> first | exact h.of_fail.elim | skip
    exact r.valuePC hd (by simp [execOp, ho, h1.bool, Op.unary]) h (.bool _)
  | int k n =>
    cases op <;> first | exact h.of_fail.elim | skip
    · exact r.valuePC hd (by simp [execOp, ho, h1.int.1, Op.unary, Op.intArith]) h (.int _ _ (IntKind.has_wrap _ _))
    · refine r.valuePC hd (u := .int k (ibits .xor k (cond k.signed (-1) k.max) n)) ?_ h (.int _ _ (has_ibits _ _ _ _))
      have : (if k.signed = true then (-1 : Int) else k.max) = cond k.signed (-1) k.max := by cases k.signed <;> rfl
      simp only [execOp, ho, h1.int.1, Op.unary, this]
      rfl
  | _ => exact h.of_fail.elim

theorem op_nilCheck (r : R P U N L0 G0 w0 G σ a w) (hd : ∀ d, o.dst = some d → d < N) {x : Operand} (ho : o.op = .nilCheck x) {rd : List Nat} {ws : List (Nat × AV U.τ)} (h : Does P U σ (opTree P adv o) rd ws) :
    Goal P U N L0 G0 w0 σ o a w ws := by
  simp only [opTree, ho] at h
  obtain ⟨v, _, h1, h⟩ := r.opd h
  obtain ⟨k1, k2⟩ := opd_plain h1
  cases v with
  | one c =>
    cases c <;> first | exact h.of_fail.elim | skip
    · exact r.value hd (by simp [execOp, ho, h1.ref.2]; rfl) h rfl (by rw [← h1.ref.2]; exact k2)
    · exact r.value hd (by simp [execOp, ho, h1.eref.2]; rfl) h rfl (by rw [← h1.eref.2]; exact k2)
  | im cs =>
    obtain ⟨b, off, hu, _⟩ := h1.im
    exact r.value hd (by simp [execOp, ho, hu]; rfl) h rfl (by rw [← hu]; exact k2)
  | _ => exact h.of_fail.elim

theorem op_extract (r : R P U N L0 G0 w0 G σ a w) (hd : ∀ d, o.dst = some d → d < N) {x : Operand} {i : Nat} (ho : o.op = .extract x i) {rd : List Nat} {ws : List (Nat × AV U.τ)} (h : Does P U σ (opTree P adv o) rd ws) :
    Goal P U N L0 G0 w0 σ o a w ws := by
  simp only [opTree, ho] at h
  obtain ⟨v, _, h1, h⟩ := r.opd h
  cases v with
  | tup vs =>
    obtain ⟨t, ⟨us, hu, hs, hv⟩, _⟩ := h1.ok
    simp only at h
    cases hi : vs[i]? with
    | none => rw [hi] at h; exact h.of_fail.elim
    | some p =>
      obtain ⟨ag, cs⟩ := p
      obtain ⟨y, hy, hok⟩ := hv i ag cs hi
      have hrun : (execOp a.eval o).run P w = .ok (.value y) w := by simp [execOp, ho, hu, Instr.extract, hy]
      rw [hi] at h
      cases ag with
      | true => exact r.value hd hrun h rfl fun _ => hok
      | false =>
        obtain ⟨c, rfl, hc⟩ := hok
        exact r.valuePC hd hrun h hc
  | _ => exact h.of_fail.elim

theorem op_pick (r : R P U N L0 G0 w0 G σ a w) (hd : ∀ d, o.dst = some d → d < N) {c x y : Operand} (ho : o.op = .pick c x y) {rd : List Nat} {ws : List (Nat × AV U.τ)} (h : Does P U σ (opTree P adv o) rd ws) :
    Goal P U N L0 G0 w0 σ o a w ws := by
  simp only [opTree, ho] at h
  cases c with
  | tmp t =>
    obtain ⟨b, _, hb, h⟩ := h.of_split
    have hs := r.slots t
    rw [hb] at hs
    have hc : a.eval (.tmp t) = .bool b := PC.of_bool (by
      rcases hs with hs | ⟨_, _, h1, _⟩
      · exact hs
      · simp [cont] at h1)
    obtain ⟨v, _, h1, h⟩ := r.opd h
    obtain ⟨k1, k2⟩ := opd_plain h1
    refine r.value hd ?_ h k1 k2
    simp only [execOp, ho, hc]
    cases b <;> rfl
  | _ => exact h.of_fail.elim

end
end Go.VI
