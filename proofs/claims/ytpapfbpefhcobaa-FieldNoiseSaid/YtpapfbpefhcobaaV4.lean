import Derived.Test.YtpapfbpefhcobaaV3
import Derived.Laws.Slices
import Derived.Laws.BytesString
import Derived.Laws.Concat
import Derived.Laws.StructEq
import Derived.Laws.World
import Derived.Laws.IdiomCopy
/-! The operations that only reckon and read. -/
set_option linter.unusedVariables false
set_option linter.unusedSimpArgs false
namespace Go.VI
open Go

/-- One operation, carried out. -/
def Goes (P : Program) (o : Oper) (a : Act) (w : World) (K : Act → World → Prop) : Prop :=
  match (execOp a.eval o).run P w with
  | .ok (.value v) w' => K (a.put o.dst v) w'
  | .ok .skip w' => K (a.put o.dst undef) w'
  | .ok (.enter f args) w' => Calls P f args w' fun e w'' => ∃ v, e = .returned v ∧ K (a.put o.dst v) w''
  | _ => False

theorem Goes.wp {P : Program} {o : Oper} {a : Act} {w : World} {K : Act → World → Prop} {Q : Exit → Act → World → Prop} (h : Goes P o a w K) : o.wp P a w K Q := by
  unfold Goes at h
  unfold Oper.wp
  generalize (execOp a.eval o).run P w = r at *
  cases r with
  | ok n w' =>
    cases n <;> simp only [Oper.upon] at * <;> first | exact h | skip
    exact h.mono fun e w'' ⟨v, he, hk⟩ => by subst he; exact hk
  | halt x w' => exact h.elim

theorem IntKind.has_wrap (k : IntKind) (n : Int) : k.has (k.wrap n) := by
  have h2 : ∀ m : Nat, (0 : Int) < 2 ^ m := fun m => by exact_mod_cast Nat.pow_pos (by omega : 0 < 2)
  unfold IntKind.has IntKind.wrap IntKind.min IntKind.max
  cases k <;> simp only [IntKind.bits, IntKind.signed] <;> simp <;> omega

theorem run_sizeOf {P : Program} {t : TypeId} (h : 1 ≤ P.cellsOf t) (w : World) : (sizeOf t).run P w = .ok (P.cellsOf t) w := by
  unfold Program.cellsOf at *
  cases hi : P.info? t with
  | none => rw [hi] at h; simp at h
  | some i => simp [sizeOf, typeInfo, hi]

theorem isSome_info {P : Program} {t : TypeId} (h : 1 ≤ P.cellsOf t) : ∃ i, P.info? t = some i ∧ i.size = P.cellsOf t := by
  unfold Program.cellsOf at *
  cases hi : P.info? t with
  | none => rw [hi] at h; simp at h
  | some i => exact ⟨i, rfl, by simp⟩

theorem run_isAgg {P : Program} {t : TypeId} {d : TypeDesc} (h : P.underlying t = some d) (w : World) :
    (isAgg t).run P w = .ok (match d with | .struct _ => true | .array _ _ => true | _ => false) w := by
  cases d <;> simp [isAgg, run_underlying h]

theorem Addr.add_none (b o n : Nat) : (⟨b, o, none⟩ : Addr).add n = ⟨b, o + n, none⟩ := by
  unfold Addr.add
  split
  · subst_vars; rfl
  · rfl

section
variable {P : Program} {U : Univ} {N : Nat} {L0 : Nat → Nat} {G0 : Ghost} {w0 : World} {G : Ghost} {σ : Slots U} {a : Act} {w : World} {o : Oper} {adv : Adv}

/-- What is shown of an operation. -/
abbrev Goal (P : Program) (U : Univ) (N : Nat) (L0 : Nat → Nat) (G0 : Ghost) (w0 : World) (σ : Slots U) (o : Oper) (a : Act) (w : World) (ws : List (Nat × AV U.τ)) : Prop :=
  Goes P o a w fun a' w' => ∃ G', R P U N L0 G0 w0 G' (updsσ σ ws) a' w'

theorem R.value (r : R P U N L0 G0 w0 G σ a w) (hd : ∀ d, o.dst = some d → d < N) {u : Value} (hrun : (execOp a.eval o).run P w = .ok (.value u) w) {v : AV U.τ} {rd : List Nat} {ws : List (Nat × AV U.τ)}
    (hw : Does P U σ (wr o.dst v) rd ws) (hv : v.owner = false) (h : ∀ t, SlotOk P U G σ w t v u) : Goal P U N L0 G0 w0 σ o a w ws := by
  unfold Goal Goes
  rw [hrun]
  rcases hw.of_wr with ⟨h1, h2⟩ | ⟨d, h1, h2, h3⟩
  · rw [h1, h2]
    exact ⟨G, r⟩
  · rw [h1, h2]
    exact ⟨G, r.put (hd d h1) h3 hv h⟩

theorem R.valuePC (r : R P U N L0 G0 w0 G σ a w) (hd : ∀ d, o.dst = some d → d < N) {u : Value} (hrun : (execOp a.eval o).run P w = .ok (.value u) w) {c : CV U.τ} {rd : List Nat} {ws : List (Nat × AV U.τ)}
    (hw : Does P U σ (wr o.dst (.one c)) rd ws) (h : PC P U w G.I c u) : Goal P U N L0 G0 w0 σ o a w ws :=
  r.value hd hrun hw rfl fun _ => SlotOk.of_pc h

theorem SlotOk.plain {t : Nat} {v : AV U.τ} {u : Value} (h : SlotOk P U G σ w t v u) (hv : v.owner = false) : v.plain.owner = false ∧ ∀ t', SlotOk P U G σ w t' v.plain u := by
  cases v with
  | one c =>
    refine ⟨rfl, fun t' => ?_⟩
    cases c with
    | any => trivial
    | ref s o => exact h
    | sref s => exact h
    | eref s i => exact h
    | bool b => exact SlotOk.of_pc (CellOk.plain h)
    | int k n => exact SlotOk.of_pc (CellOk.plain h)
    | str s => exact SlotOk.of_pc (CellOk.plain h)
    | fn f => exact SlotOk.of_pc (CellOk.plain h)
    | sl e xs f => exact SlotOk.of_pc (CellOk.plain h)
    | bs e s f => exact SlotOk.of_pc (CellOk.plain h)
  | undef => exact ⟨rfl, fun _ => trivial⟩
  | agg cs => exact ⟨rfl, fun _ => h⟩
  | tup vs => exact ⟨rfl, fun _ => h⟩
  | im cs => exact ⟨rfl, fun _ => h⟩
  | box cs => cases hv
  | bblk e s q => cases hv

theorem opd_plain {x : Operand} {v : AV U.τ} {u : Value} (h : Opd (P := P) G σ w x v u) : v.plain.owner = false ∧ ∀ t', SlotOk P U G σ w t' v.plain u := by
  obtain ⟨t, h1, _⟩ := h.ok
  exact h1.plain h.own

theorem run_int_op (op : BinOp) (t : TypeId) (k : IntKind) (a b : Int) (h1 : op ≠ .shl) (h2 : op ≠ .shr) (w : World) :
    (Go.binOp op t (.int k a) (.int k b)).run P w = (match op with
      | .add | .sub | .mul => Op.intArith op k a b
      | .quo | .rem => Op.intDiv op k a b
      | .and | .or | .xor | .andNot => Op.intBits op k a b
      | _ => Op.intCmp op a b).run P w := by
  cases op <;> first | (exact absurd rfl h1) | (exact absurd rfl h2) | simp [Go.binOp]

theorem eqGuard_none (op : BinOp) (t : TypeId) (x y : Operand) (u v : Value) (h : ∀ cs, u ≠ .agg cs) (h' : u ≠ .nilIface) (w : World) : (eqGuard op t x y u v).run P w = .ok () w := by
  unfold eqGuard
  cases op <;> first | (simp; done) | skip
  all_goals
    simp only [Sem.run_ite, Bool.not_true, Bool.false_eq_true, if_false]
    cases u <;> first | rfl | (exact absurd rfl h') | (exact absurd rfl (h _)) | (cases v <;> rfl)

theorem eqGuard_agg (op : BinOp) (t : TypeId) (x y : Operand) (us vs : Array Value) (h : P.eqGuardType P.depth t = false) (w : World) : (eqGuard op t x y (.agg us) (.agg vs)).run P w = .ok () w := by
  unfold eqGuard
  cases op <;> simp [h]

def rowT : TypeDesc → Bool
  | .struct _ => true
  | .array _ _ => true
  | _ => false

theorem run_isAgg' {t : TypeId} {d : TypeDesc} (h : P.underlying t = some d) (w : World) : (isAgg t).run P w = .ok (rowT d) w := by
  rw [run_isAgg h]; cases d <;> rfl

theorem PC.of_bool {I : Nat → Nat → Prop} {b : Bool} {u : Value} (h : PC P U w I (.bool b) u) : u = .bool b := by
  cases h with
  | bool b => rfl
  | nil _ _ _ h1 => simp [cont] at h1
  | emp _ _ _ _ h1 => simp [cont] at h1
  | row _ _ _ _ _ _ _ h1 => simp [cont] at h1

theorem PC.of_int {I : Nat → Nat → Prop} {k : IntKind} {n : Int} {u : Value} (h : PC P U w I (.int k n) u) : u = .int k n ∧ k.has n := by
  cases h with
  | int _ _ h => exact ⟨rfl, h⟩
  | nil _ _ _ h1 => simp [cont] at h1
  | emp _ _ _ _ h1 => simp [cont] at h1
  | row _ _ _ _ _ _ _ h1 => simp [cont] at h1

theorem PC.of_str {I : Nat → Nat → Prop} {s : List UInt8} {u : Value} (h : PC P U w I (.str s) u) : u = .string ⟨⟨s⟩⟩ ∧ (s.length : Int) ≤ maxLenI := by
  cases h with
  | str _ h => exact ⟨rfl, h⟩
  | nil _ _ _ h1 => simp [cont] at h1
  | emp _ _ _ _ h1 => simp [cont] at h1
  | row _ _ _ _ _ _ _ h1 => simp [cont] at h1

theorem run_part_one {t : TypeId} {d : TypeDesc} (ht : P.underlying t = some d) (h : rowT d = false) (us : Array Value) (off : Nat) {u : Value} (hu : us[off]? = some u) (w : World) :
    (part t us off).run P w = .ok u w := by
  simp only [part, Sem.run_bind, run_isAgg' ht, h, Result.andThen_ok]
  simp [hu]

theorem fieldEq_ok {I : Nat → Nat → Prop} {f : Field} {i : Nat} {c d : CV U.τ} {u v : Value} {r : Bool} (h : fieldEq P f i c d = some r) (hc : PC P U w I c u) (hd : PC P U w I d v) :
    f.name ≠ "_" ∧ f.offset = i ∧ ∃ ds, P.underlying f.type = some ds ∧ rowT ds = false ∧ (Op.equalIn 9999 f.type u v).run P w = .ok r w := by
  unfold fieldEq at h
  cases hb : ((f.name != "_") && Nat.beq f.offset i) with
  | false => rw [hb] at h; cases h
  | true =>
    rw [hb] at h
    simp only [cond_true] at h
    simp only [Bool.and_eq_true, bne_iff_ne, ne_eq] at hb
    refine ⟨hb.1, Nat.eq_of_beq_eq_true hb.2, ?_⟩
    split at h
    · rename_i hu
      injection h with h; subst h
      rw [hc.of_bool, hd.of_bool]
      exact ⟨_, hu, rfl, run_equalIn_bool' w 9998 _ _ _ hu⟩
    · rename_i k' k a j b hu
      cases hk : decide (k = j) with
      | false => rw [hk] at h; cases h
      | true =>
        rw [hk] at h
        injection h with h; subst h
        have hkj : k = j := of_decide_eq_true hk
        subst hkj
        rw [hc.of_int.1, hd.of_int.1]
        exact ⟨_, hu, rfl, run_equalIn_int w 9998 _ _ _ _ _ hu⟩
    · rename_i hu
      injection h with h; subst h
      rw [hc.of_str.1, hd.of_str.1]
      refine ⟨_, hu, rfl, ?_⟩
      rw [run_equalIn_string w 9998 _ _ _ hu, ByteArray.toList_eq, ByteArray.toList_eq]
    · cases h

theorem eqFields_ok {I : Nat → Nat → Prop} (us vs : Array Value) : ∀ (fs : List Field) (i : Nat) (as bs : List (CV U.τ)) (r : Bool), structEq P fs i as bs = some r →
    (∀ (j : Nat) c, as[j]? = some c → ∃ u, us[i + j]? = some u ∧ PC P U w I c u) → (∀ (j : Nat) c, bs[j]? = some c → ∃ u, vs[i + j]? = some u ∧ PC P U w I c u) →
    (Op.eqFields 9999 us vs fs).run P w = .ok r w := by
  intro fs
  induction fs with
  | nil => intro i as bs r hr _ _; simp [structEq] at hr
  | cons f fs ih =>
    intro i as bs r hr ha hb
    cases as with
    | nil => simp [structEq] at hr
    | cons c as =>
      cases bs with
      | nil => simp [structEq] at hr
      | cons d bs =>
        obtain ⟨u, hu, hcu⟩ := ha 0 c rfl
        obtain ⟨v, hv, hdv⟩ := hb 0 d rfl
        rw [Nat.add_zero] at hu hv
        have one : ∀ q, fieldEq P f i c d = some q → (Op.eqFields 9999 us vs (f :: fs)).run P w = if q = true then (Op.eqFields 9999 us vs fs).run P w else .ok false w := by
          intro q hq
          obtain ⟨h1, h2, ds, h3, h4, h5⟩ := fieldEq_ok hq hcu hdv
          have hp1 := run_part_one h3 h4 us f.offset (by rw [h2]; exact hu) w
          have hp2 := run_part_one h3 h4 vs f.offset (by rw [h2]; exact hv) w
          simp only [Op.eqFields, ne_eq, h1, not_false_eq_true, if_true, Sem.run_bind, hp1, hp2, h5, Result.andThen_ok, Sem.run_ite]
          cases q <;> simp
        have two : ∀ x y, fieldEq P f i c d = some x → structEq P fs (i + 1) as bs = some y → r = (x && y) → (Op.eqFields 9999 us vs (f :: fs)).run P w = .ok r w := by
          intro x y hx hy he
          rw [one x hx]
          have := ih (i + 1) as bs y hy (fun j c hj => by have := ha (j + 1) c (by simpa using hj); rwa [show i + (j + 1) = i + 1 + j by omega] at this)
            (fun j c hj => by have := hb (j + 1) c (by simpa using hj); rwa [show i + (j + 1) = i + 1 + j by omega] at this)
          rw [this, he]
          cases x <;> simp
        have last : ∀ x, fieldEq P f i c d = some x → fs = [] → r = x → (Op.eqFields 9999 us vs (f :: fs)).run P w = .ok r w := by
          intro x hx hf he
          rw [one x hx, hf, he]
          cases x <;> simp [Op.eqFields]
        cases fs with
        | nil =>
          cases as with
          | nil => cases bs with
            | nil => exact last r hr rfl rfl
            | cons _ _ =>
              simp only [structEq] at hr
              split at hr <;> simp_all [structEq]
          | cons _ _ =>
            simp only [structEq] at hr
            split at hr <;> simp_all [structEq]
        | cons g gs =>
          simp only [structEq] at hr
          split at hr
          · rename_i x y hx hy
            injection hr with hr
            exact two x y hx hy hr.symm
          · cases hr

theorem aggEq_ok {I : Nat → Nat → Prop} {t : TypeId} {as bs : List (CV U.τ)} {u v : Value} {r : Bool} (h : aggEq P t as bs = some r) (ha : ValOk P U w I true as u) (hb : ValOk P U w I true bs v) :
    ∃ us vs, u = .agg us ∧ v = .agg vs ∧ P.eqGuardType P.depth t = false ∧ (Op.equalIn 10000 t u v).run P w = .ok r w := by
  unfold aggEq at h
  split at h
  · rename_i fs hu
    cases hc : (P.eqGuardType P.depth t || P.stoodInHeld t) with
    | true => rw [hc] at h; cases h
    | false =>
      rw [hc] at h
      simp only [cond_false] at h
      simp only [Bool.or_eq_false_iff] at hc
      obtain ⟨us, rfl, h1, h2⟩ := ha
      obtain ⟨vs, rfl, h3, h4⟩ := hb
      refine ⟨us, vs, rfl, rfl, hc.1, ?_⟩
      have hf : P.fieldsOf t = fs := by simp [Program.fieldsOf, hu]
      rw [run_equalIn_struct w 9999 t us vs (by rw [hf]; exact hu) hc.2, hf]
      exact eqFields_ok us vs fs.toList 0 as bs r h (fun j c hj => by rw [Nat.zero_add]; exact h2 j c hj) (fun j c hj => by rw [Nat.zero_add]; exact h4 j c hj)
  · cases h

end
end Go.VI
