import Derived.Test.YtjgnpggpgkkknaaXW
/-! A chain of tests in one region ('a.X != b.X || a.Y != b.Y || ..'), walked with a frame that is not written out: of its slots only those that matter are known. -/
namespace Go.Proofs.YtjgnpggpgkkknaaW.PrintWords
open Go.RowKit
set_option linter.unusedVariables false
section
variable {P : Program} {ops : Array Oper} {rest : List Oper} {o : Oper} {t : Array Value} {df : List Deferred} {Q : Exit → Act → World → Prop} {w : World}
theorem ch_put (d : Nat) (v : Value) : Act.put ⟨t, df⟩ (some d) v = ⟨t.setIfInBounds d v, df⟩ := rfl
theorem ch_same {d i : Nat} {v : Value} (h : d ≠ i) : (t.setIfInBounds d v)[i]? = t[i]? := by rw [Array.getElem?_setIfInBounds, if_neg h]
theorem ch_at {d : Nat} {v : Value} (h : d < t.size) : (t.setIfInBounds d v)[d]? = some v := by rw [Array.getElem?_setIfInBounds, if_pos rfl, if_pos h]
theorem ch_eval {i : Nat} {v : Value} (h : t[i]? = some v) : Act.eval ⟨t, df⟩ (.tmp i) = v := by
  show t.getD i undef = v
  rw [Array.getD_eq_getD_getElem?, h]; rfl
theorem ch_yield {g dg : Nat} {b : Bool} (hg : (ops[g]?).bind (·.dst) = some dg) (h : t[dg]? = some (.bool b)) : yielded ops t g = some b := by
  unfold yielded
  rw [hg, Option.bind_some, h]
theorem ch_no {g dg d : Nat} (hd : o.dst = some d) (hq : o.guard = some (g, false)) (hg : (ops[g]?).bind (·.dst) = some dg) (hb : t[dg]? = some (.bool true)) (h : wpList P ops Q rest ⟨t.setIfInBounds d undef, df⟩ w) : wpList P ops Q (o :: rest) ⟨t, df⟩ w := by
  refine wpList_skip ?_ ?_
  · show Region.wanted o (yielded ops t) = false
    unfold Region.wanted
    rw [hq]
    show (yielded ops t g == some false) = false
    rw [ch_yield hg hb]; rfl
  · rw [hd]; exact h
theorem ch_run {d : Nat} {v : Value} (hd : o.dst = some d) (hw : Region.wanted o (yielded ops t) = true) (hr : (execOp (Act.eval ⟨t, df⟩) o).run P w = .ok (.value v) w) (h : wpList P ops Q rest ⟨t.setIfInBounds d v, df⟩ w) : wpList P ops Q (o :: rest) ⟨t, df⟩ w := by
  refine BigFrame.wpList_want hw fun K hK => ?_
  unfold Oper.wp
  rw [hr]
  show K (Act.put ⟨t, df⟩ o.dst v) w
  rw [hd]
  exact hK _ _ h
theorem ch_yes {g dg d : Nat} {v : Value} (hd : o.dst = some d) (hq : o.guard = some (g, false)) (hg : (ops[g]?).bind (·.dst) = some dg) (hb : t[dg]? = some (.bool false)) (hr : (execOp (Act.eval ⟨t, df⟩) o).run P w = .ok (.value v) w) (h : wpList P ops Q rest ⟨t.setIfInBounds d v, df⟩ w) : wpList P ops Q (o :: rest) ⟨t, df⟩ w := by
  refine ch_run hd ?_ hr h
  unfold Region.wanted
  rw [hq]
  show (yielded ops t g == some false) = true
  rw [ch_yield hg hb]; rfl
theorem ch_free {d : Nat} {v : Value} (hd : o.dst = some d) (hq : o.guard = none) (hr : (execOp (Act.eval ⟨t, df⟩) o).run P w = .ok (.value v) w) (h : wpList P ops Q rest ⟨t.setIfInBounds d v, df⟩ w) : wpList P ops Q (o :: rest) ⟨t, df⟩ w := by
  refine ch_run hd ?_ hr h
  unfold Region.wanted
  rw [hq]
theorem ch_move {y : Operand} (ho : o.op = .move y) (ρ : Operand → Value) : (execOp ρ o).run P w = .ok (.value (ρ y)) w := by
  unfold execOp; rw [ho]; rfl
theorem ch_pick {c y z : Operand} {b : Bool} (ho : o.op = .pick c y z) (ρ : Operand → Value) (hb : ρ c = .bool b) : (execOp ρ o).run P w = .ok (.value (if b then ρ y else ρ z)) w := by
  unfold execOp; rw [ho]
  simp only [hb]
  cases b <;> rfl
/-- The first test: five operations, and its Bool moved. -/
theorem chain_first {o1 o2 o3 o4 o5 o6 : Oper} {d pa pb : Nat} {pA pB qA qB x y : Value} {c : Bool}
    (e1 : o1.dst = some d) (e2 : o2.dst = some (d + 1)) (e3 : o3.dst = some (d + 2)) (e4 : o4.dst = some (d + 3)) (e5 : o5.dst = some (d + 4)) (e6 : o6.dst = some (d + 5))
    (n1 : o1.guard = none) (n2 : o2.guard = none) (n3 : o3.guard = none) (n4 : o4.guard = none) (n5 : o5.guard = none) (n6 : o6.guard = none)
    (m6 : o6.op = .move (.tmp (d + 4))) {n : Nat} (hn : t.size = n) (hz : d + 6 < n) (ha : pa < d) (hb : pb < d) (hA : t[pa]? = some pA) (hB : t[pb]? = some pB)
    (r1 : ∀ ρ : Operand → Value, ρ (.tmp pa) = pA → (execOp ρ o1).run P w = .ok (.value qA) w) (r2 : ∀ ρ : Operand → Value, ρ (.tmp d) = qA → (execOp ρ o2).run P w = .ok (.value x) w)
    (r3 : ∀ ρ : Operand → Value, ρ (.tmp pb) = pB → (execOp ρ o3).run P w = .ok (.value qB) w) (r4 : ∀ ρ : Operand → Value, ρ (.tmp (d + 2)) = qB → (execOp ρ o4).run P w = .ok (.value y) w)
    (r5 : ∀ ρ : Operand → Value, ρ (.tmp (d + 1)) = x → ρ (.tmp (d + 3)) = y → (execOp ρ o5).run P w = .ok (.value (.bool c)) w)
    (next : ∀ t' : Array Value, t'.size = n → (∀ i, i < d ∨ d + 5 < i → t'[i]? = t[i]?) → t'[d + 5]? = some (.bool c) → wpList P ops Q rest ⟨t', df⟩ w) :
    wpList P ops Q (o1 :: o2 :: o3 :: o4 :: o5 :: o6 :: rest) ⟨t, df⟩ w := by
  refine ch_free e1 n1 (r1 _ (ch_eval hA)) ?_
  refine ch_free e2 n2 (r2 _ (ch_eval (ch_at (by omega)))) ?_
  refine ch_free e3 n3 (r3 _ (ch_eval (by rw [ch_same (by omega), ch_same (by omega)]; exact hB))) ?_
  refine ch_free e4 n4 (r4 _ (ch_eval (ch_at (by simp only [Array.size_setIfInBounds]; omega)))) ?_
  refine ch_free e5 n5 (r5 _ (ch_eval (by rw [ch_same (by omega), ch_same (by omega)]; exact ch_at (by simp only [Array.size_setIfInBounds]; omega))) (ch_eval (ch_at (by simp only [Array.size_setIfInBounds]; omega)))) ?_
  refine ch_free e6 n6 (ch_move m6 _) ?_
  refine next _ (by simp only [Array.size_setIfInBounds]; exact hn) ?_ ?_
  · intro i hi
    rw [ch_same (by omega), ch_same (by omega), ch_same (by omega), ch_same (by omega), ch_same (by omega), ch_same (by omega)]
  · rw [ch_at (by simp only [Array.size_setIfInBounds]; omega), ch_eval (ch_at (by simp only [Array.size_setIfInBounds]; omega))]
/-- A further test: five operations that the Bool so far guards; their Bool, or the one so far. -/
theorem chain_core {o1 o2 o3 o4 o5 o6 : Oper} {d pa pb g dg : Nat} {pA pB qA qB x y : Value} {b c : Bool}
    (e1 : o1.dst = some d) (e2 : o2.dst = some (d + 1)) (e3 : o3.dst = some (d + 2)) (e4 : o4.dst = some (d + 3)) (e5 : o5.dst = some (d + 4)) (e6 : o6.dst = some (d + 5))
    (n1 : o1.guard = some (g, false)) (n2 : o2.guard = some (g, false)) (n3 : o3.guard = some (g, false)) (n4 : o4.guard = some (g, false)) (n5 : o5.guard = some (g, false)) (n6 : o6.guard = none)
    (m6 : o6.op = .pick (.tmp dg) (.const (.bool true)) (.tmp (d + 4))) (hg : (ops[g]?).bind (·.dst) = some dg) {n : Nat} (hn : t.size = n) (hz : d + 6 < n) (ha : pa < d) (hb : pb < d) (hdg : dg < d) (hA : t[pa]? = some pA) (hB : t[pb]? = some pB) (hT : t[dg]? = some (.bool b))
    (r1 : ∀ ρ : Operand → Value, ρ (.tmp pa) = pA → (execOp ρ o1).run P w = .ok (.value qA) w) (r2 : ∀ ρ : Operand → Value, ρ (.tmp d) = qA → (execOp ρ o2).run P w = .ok (.value x) w)
    (r3 : ∀ ρ : Operand → Value, ρ (.tmp pb) = pB → (execOp ρ o3).run P w = .ok (.value qB) w) (r4 : ∀ ρ : Operand → Value, ρ (.tmp (d + 2)) = qB → (execOp ρ o4).run P w = .ok (.value y) w)
    (r5 : ∀ ρ : Operand → Value, ρ (.tmp (d + 1)) = x → ρ (.tmp (d + 3)) = y → (execOp ρ o5).run P w = .ok (.value (.bool c)) w)
    (next : ∀ t' : Array Value, t'.size = n → (∀ i, i < d ∨ d + 5 < i → t'[i]? = t[i]?) → t'[d + 5]? = some (.bool (b || c)) → wpList P ops Q rest ⟨t', df⟩ w) :
    wpList P ops Q (o1 :: o2 :: o3 :: o4 :: o5 :: o6 :: rest) ⟨t, df⟩ w := by
  cases b with
  | true =>
    refine ch_no e1 n1 hg hT ?_
    refine ch_no e2 n2 hg (by rw [ch_same (by omega)]; exact hT) ?_
    refine ch_no e3 n3 hg (by rw [ch_same (by omega), ch_same (by omega)]; exact hT) ?_
    refine ch_no e4 n4 hg (by rw [ch_same (by omega), ch_same (by omega), ch_same (by omega)]; exact hT) ?_
    refine ch_no e5 n5 hg (by rw [ch_same (by omega), ch_same (by omega), ch_same (by omega), ch_same (by omega)]; exact hT) ?_
    refine ch_free e6 n6 (ch_pick m6 _ (ch_eval (by rw [ch_same (by omega), ch_same (by omega), ch_same (by omega), ch_same (by omega), ch_same (by omega)]; exact hT))) ?_
    refine next _ (by simp only [Array.size_setIfInBounds]; exact hn) ?_ ?_
    · intro i hi
      rw [ch_same (by omega), ch_same (by omega), ch_same (by omega), ch_same (by omega), ch_same (by omega), ch_same (by omega)]
    · rw [ch_at (by simp only [Array.size_setIfInBounds]; omega)]; rfl
  | false =>
    refine ch_yes e1 n1 hg hT (r1 _ (ch_eval hA)) ?_
    refine ch_yes e2 n2 hg (by rw [ch_same (by omega)]; exact hT) (r2 _ (ch_eval (ch_at (by omega)))) ?_
    refine ch_yes e3 n3 hg (by rw [ch_same (by omega), ch_same (by omega)]; exact hT) (r3 _ (ch_eval (by rw [ch_same (by omega), ch_same (by omega)]; exact hB))) ?_
    refine ch_yes e4 n4 hg (by rw [ch_same (by omega), ch_same (by omega), ch_same (by omega)]; exact hT) (r4 _ (ch_eval (ch_at (by simp only [Array.size_setIfInBounds]; omega)))) ?_
    refine ch_yes e5 n5 hg (by rw [ch_same (by omega), ch_same (by omega), ch_same (by omega), ch_same (by omega)]; exact hT) (r5 _ (ch_eval (by rw [ch_same (by omega), ch_same (by omega)]; exact ch_at (by simp only [Array.size_setIfInBounds]; omega))) (ch_eval (ch_at (by simp only [Array.size_setIfInBounds]; omega)))) ?_
    refine ch_free e6 n6 (ch_pick m6 _ (ch_eval (by rw [ch_same (by omega), ch_same (by omega), ch_same (by omega), ch_same (by omega), ch_same (by omega)]; exact hT))) ?_
    refine next _ (by simp only [Array.size_setIfInBounds]; exact hn) ?_ ?_
    · intro i hi
      rw [ch_same (by omega), ch_same (by omega), ch_same (by omega), ch_same (by omega), ch_same (by omega), ch_same (by omega)]
    · rw [ch_at (by simp only [Array.size_setIfInBounds]; omega), if_neg (by decide), ch_eval (ch_at (by simp only [Array.size_setIfInBounds]; omega))]; rfl
/-- The Bool so far, moved. -/
theorem chain_move {o1 : Oper} {d : Nat} {v : Value} (e1 : o1.dst = some (d + 1)) (n1 : o1.guard = none) (m1 : o1.op = .move (.tmp d)) {n : Nat} (hn : t.size = n) (hz : d + 1 < n) (hT : t[d]? = some v)
    (next : ∀ t' : Array Value, t'.size = n → (∀ i, i < d + 1 ∨ d + 1 < i → t'[i]? = t[i]?) → t'[d + 1]? = some v → wpList P ops Q rest ⟨t', df⟩ w) : wpList P ops Q (o1 :: rest) ⟨t, df⟩ w := by
  refine ch_free e1 n1 (ch_move m1 _) ?_
  refine next _ (by simp only [Array.size_setIfInBounds]; exact hn) (fun i hi => ch_same (by omega)) ?_
  rw [ch_at (by omega), ch_eval hT]
end
/-- A frame of which the slots from lo to hi are not known. -/
def mixL (t : Array Value) (lo hi : Nat) : Nat → List Value → List Value
  | _, [] => []
  | i, c :: l => cond (Nat.ble lo i && Nat.ble i hi) (t.getD i undef) c :: mixL t lo hi (i + 1) l
theorem mixL_get (t : Array Value) (lo hi : Nat) : ∀ (l : List Value) (i j : Nat), (mixL t lo hi i l)[j]? = (l[j]?).map fun c => cond (Nat.ble lo (i + j) && Nat.ble (i + j) hi) (t.getD (i + j) undef) c := by
  intro l
  induction l with
  | nil => intro i j; simp [mixL]
  | cons c l ih =>
    intro i j
    cases j with
    | zero => simp [mixL]
    | succ j => simp only [mixL, List.getElem?_cons_succ, ih]; rw [show i + 1 + j = i + (j + 1) by omega]
theorem frame_mix {t : Array Value} {l : List Value} {lo hi n : Nat} (hn : t.size = n) (hl : l.length = n) (hk' : ∀ i, i < lo ∨ hi < i → t[i]? = l.toArray[i]?) : t = (mixL t lo hi 0 l).toArray := by
  have hs : t.size = l.length := hn.trans hl.symm
  have hk : ∀ i, i < lo ∨ hi < i → t[i]? = l[i]? := fun i h => (hk' i h).trans (by simp)
  apply Array.ext_getElem?
  intro i
  have e : (mixL t lo hi 0 l).toArray[i]? = (mixL t lo hi 0 l)[i]? := by simp
  rw [e, mixL_get, Nat.zero_add]
  by_cases h : i < l.length
  · rw [List.getElem?_eq_getElem h, Option.map_some]
    by_cases h2 : lo ≤ i ∧ i ≤ hi
    · rw [Nat.ble_eq_true_of_le h2.1, Nat.ble_eq_true_of_le h2.2]
      show t[i]? = some (t.getD i undef)
      rw [Array.getD_eq_getD_getElem?, Array.getElem?_eq_getElem (by omega)]; rfl
    · have : (Nat.ble lo i && Nat.ble i hi) = false := by
        rw [Bool.and_eq_false_iff]
        by_cases h3 : lo ≤ i
        · right; rw [← Bool.not_eq_true, Nat.ble_eq]; omega
        · left; rw [← Bool.not_eq_true, Nat.ble_eq]; omega
      rw [this, hk i (by omega), List.getElem?_eq_getElem h]; rfl
  · rw [List.getElem?_eq_none (by omega), Array.getElem?_eq_none (by omega)]; rfl
end Go.Proofs.YtjgnpggpgkkknaaW.PrintWords
