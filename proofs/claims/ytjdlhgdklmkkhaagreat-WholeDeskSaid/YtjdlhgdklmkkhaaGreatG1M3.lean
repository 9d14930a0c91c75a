import Derived.Test.YtjdlhgdklmkkhaaGreatG1FQ11
import Derived.Test.YtjdlhgdklmkkhaaGreatG1M0
import Derived.Test.YtjdlhgdklmkkhaaGreatG1M1
import Derived.Test.YtjdlhgdklmkkhaaGreatG1FH
import Derived.Test.YtjdlhgdklmkkhaaGreatG1M2
import Derived.Test.YtjdlhgdklmkkhaaGreatG1FGood
import Derived.Test.YtjdlhgdklmkkhaaGreatG1FQ14
set_option linter.unusedVariables false
set_option linter.unusedSimpArgs false
set_option maxRecDepth 100000
namespace Go.VP
open Go Go.VI
noncomputable def fitsP (p most : Int) (l : List Msg) : Bool := decide ((encP p l).2.2 = 0 ∧ ((encP p l).1.length : Int) ≤ most)
theorem dat_is {p most : Int} {l : List Msg} (g : ∀ m ∈ l, GoodP p m) (hl : l.length ≤ 1000) : g_pack_datagram (p, l, most, ()) = some (((encP p l).1, fitsP p most l, ()), ()) := by
  rw [g_pack_datagram_eq, senc_is g (by omega) (fun _ => hl), Option.bind_some]
  unfold fitsP
  refine bq_step (fun q => ?_) (fun q => ?_)
  · by_cases h : ((encP p l).1.length : Int) ≤ most
    · rw [decide_eq_true (show (encP p l).2.2 = 0 ∧ _ from ⟨q, h⟩)]; dsimp only [trip]; rw [decide_eq_true h]
    · rw [decide_eq_false (show ¬ ((encP p l).2.2 = 0 ∧ _) from fun c => h c.2)]; dsimp only [trip]; rw [decide_eq_false h]
  · rw [decide_eq_false (show ¬ ((encP p l).2.2 = 0 ∧ _) from fun c => q c.1)]
theorem pfits_is {p most : Int} {l : List Msg} (g : ∀ m ∈ l, GoodP p m) (hl : l.length ≤ 1000) : g_pack_Fits (p, l, most, ()) = some ((fitsP p most l, ()), ()) := by
  rw [g_pack_Fits_eq, dat_is g hl]; rfl
noncomputable def cnt (p most : Int) (l : List Msg) : Nat → Nat → Nat
  | 0, n => n
  | k + 1, n => if fitsP p most (l.take (n + 1)) = true then cnt p most l k (n + 1) else n
noncomputable def cntP (p most : Int) (l : List Msg) : Nat := cnt p most l l.length 0
theorem cnt_rng {p most : Int} {l : List Msg} : ∀ (k n : Nat), n ≤ cnt p most l k n ∧ cnt p most l k n ≤ n + k
  | 0, n => ⟨Nat.le_refl _, Nat.le_refl _⟩
  | k + 1, n => by
    unfold cnt
    split
    · have := cnt_rng (p := p) (most := most) (l := l) k (n + 1); omega
    · omega
theorem cnt_fits {p most : Int} {l : List Msg} : ∀ (k n : Nat), n < cnt p most l k n → fitsP p most (l.take (cnt p most l k n)) = true
  | 0, n, h => by unfold cnt at h; omega
  | k + 1, n, h => by
    unfold cnt at h ⊢
    split at h
    · rename_i hf
      rw [if_pos hf]
      by_cases q : n + 1 < cnt p most l k (n + 1)
      · exact cnt_fits k (n + 1) q
      · have := cnt_rng (p := p) (most := most) (l := l) k (n + 1)
        rw [show cnt p most l k (n + 1) = n + 1 by omega]; exact hf
    · omega
noncomputable def chunks (p most : Int) : Nat → List Msg → List (List Msg)
  | 0, _ => []
  | k + 1, l => if l = [] then [] else l.take (cntP p most l) :: chunks p most k (l.drop (cntP p most l))
noncomputable def packD (p most : Int) (l : List Msg) : List Bs := (chunks p most l.length l).map fun c => (encP p c).1
noncomputable def lastD (p : Int) (l : List Msg) (n : Nat) : Bs := if n = 0 then [] else (encP p (l.take n)).1
theorem strBo : bo_string ≤ 100000 := Nat.le_of_ble_eq_true (by kernel_rfl)
theorem pack1_loop {n m0 : Nat} {p most : Int} {l : List Msg} {acc : List Bs} (hl : l.length ≤ 1000) (ha : acc.length ≤ 1000) (g : ∀ m ∈ l, GoodP p m) : ∀ (d k i : Nat), i + d = l.length → d < k →
    L_pack_Pack_1 n m0 k p l most acc (lastD p l i) i = L_pack_Pack_0 n m0 p most (l.drop (cnt p most l d i)) (acc ++ [lastD p l (cnt p most l d i)]) := by
  have fin : ∀ (i : Nat), i ≤ l.length → (if roomB ((acc.length + [lastD p l i].length) * bo_string) = true then (if 0 ≤ (i : Int) ∧ (i : Int) ≤ (l.length : Int) then (L_pack_Pack_0 n m0 p most (l.drop (i : Int).toNat) (acc ++ [lastD p l i])) else none) else none) = L_pack_Pack_0 n m0 p most (l.drop i) (acc ++ [lastD p l i]) := fun i hi => by
    rw [if_pos (roomB_of (Nat.le_trans (Nat.mul_le_mul (show acc.length + [lastD p l i].length ≤ 1001 by simp; omega) strBo) (by decide))), if_pos (by omega), Int.toNat_natCast]
  intro d
  induction d with
  | zero =>
    intro k i h hk
    obtain ⟨k, rfl⟩ : ∃ j, k = j + 1 := ⟨k - 1, by omega⟩
    rw [L_pack_Pack_1_eq, ifn (by omega), cnt]
    exact fin i (by omega)
  | succ d ih =>
    intro k i h hk
    obtain ⟨k, rfl⟩ : ∃ j, k = j + 1 := ⟨k - 1, by omega⟩
    have hg : ∀ m ∈ l.take (i + 1), GoodP p m := fun m hm => g m (List.mem_of_mem_take hm)
    rw [L_pack_Pack_1_eq, ifd (by omega), w64 (x := (i : Int) + 1) (by omega) (by omega), if_pos (by omega), show ((i : Int) + 1).toNat = i + 1 by omega, dat_is hg (by rw [List.length_take]; omega), Option.bind_some, cnt]
    dsimp only
    cases hf : fitsP p most (l.take (i + 1)) with
    | false =>
      rw [ifnf, iff_]
      exact fin i (by omega)
    | true =>
      rw [ifnt, ift]
      have := ih k (i + 1) (by omega) (by omega)
      rw [show ((i + 1 : Nat) : Int) = (i : Int) + 1 by omega, show lastD p l (i + 1) = (encP p (l.take (i + 1))).1 by unfold lastD; rw [if_neg (by omega)]] at this
      exact this
theorem cntP_pos {p most : Int} {m : Msg} {r : List Msg} (h : fitsP p most [m] = true) : 1 ≤ cntP p most (m :: r) := by
  unfold cntP
  rw [List.length_cons, cnt]
  rw [if_pos (by simpa using h)]
  exact (cnt_rng _ _).1
theorem cntP_le {p most : Int} {l : List Msg} : cntP p most l ≤ l.length := by
  have := (cnt_rng (p := p) (most := most) (l := l) l.length 0).2
  unfold cntP; omega
theorem pack0_loop {n : Nat} {p most : Int} (hn : 2000 ≤ n) : ∀ (d k : Nat) (l : List Msg) (acc : List Bs), l.length ≤ d → d < k → l.length + acc.length ≤ 1000 → (∀ m ∈ l, GoodP p m ∧ fitsP p most [m] = true) →
    L_pack_Pack_0 n k p most l acc = some ((acc ++ (chunks p most d l).map (fun c => (encP p c).1), 0, 0, ()), ()) := by
  intro d
  induction d with
  | zero =>
    intro k l acc hd hk hl g
    obtain ⟨k, rfl⟩ : ∃ j, k = j + 1 := ⟨k - 1, by omega⟩
    rw [L_pack_Pack_0_eq, ifn (by omega)]
    simp [chunks]
  | succ d ih =>
    intro k l acc hd hk hl g
    obtain ⟨k, rfl⟩ : ∃ j, k = j + 1 := ⟨k - 1, by omega⟩
    rw [L_pack_Pack_0_eq]
    cases l with
    | nil => rw [ifn (by simp)]; simp [chunks]
    | cons m r =>
      have h1 := cntP_pos (r := r) (g m (by simp)).2
      have h2 := cntP_le (p := p) (most := most) (l := m :: r)
      have := pack1_loop (n := n) (m0 := k) (most := most) (acc := acc) (l := m :: r) (by simp at hl ⊢; omega) (by omega) (fun x hx => (g x hx).1) (m :: r).length n 0 (by omega) (by simp at hl ⊢; omega)
      rw [show lastD p (m :: r) 0 = [] from rfl, show ((0 : Nat) : Int) = 0 from rfl, show cnt p most (m :: r) (m :: r).length 0 = cntP p most (m :: r) from rfl] at this
      rw [ifd (by simp only [List.length_cons]; omega), this, ih k _ _ (by rw [List.length_drop]; simp at hd h2 ⊢; omega) (by omega) (by rw [List.length_drop, List.length_append]; simp at hl h2 ⊢; omega) (fun x hx => g x (List.mem_of_mem_drop hx))]
      have hc : chunks p most (d + 1) (m :: r) = (m :: r).take (cntP p most (m :: r)) :: chunks p most d ((m :: r).drop (cntP p most (m :: r))) := by rw [chunks, if_neg (by simp)]
      rw [hc, List.map_cons, List.append_assoc]
      have hld : lastD p (m :: r) (cntP p most (m :: r)) = (encP p ((m :: r).take (cntP p most (m :: r)))).1 := by unfold lastD; rw [if_neg (by omega)]
      rw [hld]; rfl
theorem one_at {l : List Msg} {i : Nat} (h : i < l.length) : (l.take (i + 1)).drop i = [l[i]] := by
  rw [List.take_succ_eq_append_getElem h, List.drop_left' (by rw [List.length_take]; omega)]
noncomputable def checkP (p most : Int) (l : List Msg) : Int × Int :=
  if p < 1 ∨ 4 < p then (0, 1) else match badP (rightP p) l 0 with
    | some i => ((i : Int), 1)
    | none => match badP (fun m => fitsP p most [m]) l 0 with
      | some i => ((i : Int), 11)
      | none => (0, 0)
theorem check1_loop {n : Nat} {p most : Int} {l : List Msg} (hl : l.length ≤ 1000) (g : ∀ m ∈ l, GoodP p m) : ∀ (d k i : Nat), i + d = l.length → d < k →
    L_pack_check_1 n k p l most i = some ((match badP (fun m => fitsP p most [m]) (l.drop i) i with | some j => (((j : Nat) : Int), 11, ()) | none => (0, 0, ())), ()) := by
  intro d
  induction d with
  | zero =>
    intro k i h hk
    obtain ⟨k, rfl⟩ : ∃ j, k = j + 1 := ⟨k - 1, by omega⟩
    rw [L_pack_check_1_eq, ifn (by omega), List.drop_eq_nil_of_le (by omega)]; rfl
  | succ d ih =>
    intro k i h hk
    obtain ⟨k, rfl⟩ : ∃ j, k = j + 1 := ⟨k - 1, by omega⟩
    have hi : i < l.length := by omega
    have := ih k (i + 1) (by omega) (by omega)
    rw [show ((i + 1 : Nat) : Int) = (i : Int) + 1 by omega] at this
    rw [L_pack_check_1_eq, ifd (by omega), w64 (x := (i : Int) + 1) (by omega) (by omega), if_pos (by omega), show ((i : Int) + 1).toNat = i + 1 by omega, Int.toNat_natCast, one_at hi, pfits_is (fun m hm => by rw [List.mem_singleton.1 hm]; exact g _ (List.getElem_mem hi)) (by simp), Option.bind_some, List.drop_eq_getElem_cons hi, badP]
    dsimp only
    cases hf : fitsP p most [l[i]] with
    | false => rw [ifnf, iff_]
    | true => rw [ifnt, ift]; exact this
theorem check_is {p most : Int} {l : List Msg} (hl : l.length ≤ 1000) (g : ∀ m ∈ l, GoodP p m) : g_pack_check (p, l, most, ()) = some (((checkP p most l).1, (checkP p most l).2, ()), ()) := by
  show h_pack_check fuel _ = _
  rw [h_pack_check_eq]
  unfold checkP
  refine dq_step (fun h => by rw [if_pos (Or.inl h)]) (fun h1 => ?_)
  refine dq_step (fun h => by rw [if_pos (Or.inr h)]) (fun h2 => ?_)
  rw [if_neg (show ¬ (p < 1 ∨ 4 < p) by omega)]
  have main : ∀ (d k i : Nat), i + d = l.length → d < k → L_pack_check_0 fuel k p l most i = some ((match badP (rightP p) (l.drop i) i with | some j => (((j : Nat) : Int), 1, ()) | none => (match badP (fun m => fitsP p most [m]) l 0 with | some j => (((j : Nat) : Int), 11, ()) | none => (0, 0, ()))), ()) := by
    intro d
    induction d with
    | zero =>
      intro k i h hk
      obtain ⟨k, rfl⟩ : ∃ j, k = j + 1 := ⟨k - 1, by omega⟩
      have := check1_loop (n := fuel) (most := most) hl g l.length fuel 0 (by omega) (fuel_ge (by omega))
      rw [List.drop_zero, show ((0 : Nat) : Int) = 0 from rfl] at this
      rw [L_pack_check_0_eq, ifn (by omega), List.drop_eq_nil_of_le (by omega), this]; rfl
    | succ d ih =>
      intro k i h hk
      obtain ⟨k, rfl⟩ : ∃ j, k = j + 1 := ⟨k - 1, by omega⟩
      have hi : i < l.length := by omega
      have := ih k (i + 1) (by omega) (by omega)
      rw [show ((i + 1 : Nat) : Int) = (i : Int) + 1 by omega] at this
      rw [L_pack_check_0_eq, ifd (by omega), if_pos (by omega), Int.toNat_natCast, bind_at hi, sright_p (g _ (List.getElem_mem hi)), Option.bind_some, w64 (by omega) (by omega), List.drop_eq_getElem_cons hi, badP]
      dsimp only
      cases hf : rightP p l[i] with
      | false => rw [ifnf, iff_]
      | true => rw [ifnt, ift]; exact this
  have := main l.length fuel 0 (by omega) (fuel_ge (by omega))
  rw [List.drop_zero, show ((0 : Nat) : Int) = 0 from rfl] at this
  rw [this]
  cases badP (rightP p) l 0 with
  | some i => rfl
  | none => cases badP (fun m => fitsP p most [m]) l 0 <;> rfl
noncomputable def packP (p most : Int) (l : List Msg) : List Bs × Int × Int := if (checkP p most l).2 ≠ 0 then ([], checkP p most l) else (packD p most l, 0, 0)
theorem checkP_ok {p most : Int} {l : List Msg} (h : (checkP p most l).2 = 0) : 1 ≤ p ∧ p ≤ 4 ∧ (∀ m ∈ l, rightP p m = true ∧ fitsP p most [m] = true) := by
  unfold checkP at h
  split at h
  · cases h
  · rename_i hp
    split at h
    · cases h
    · rename_i h1
      split at h
      · cases h
      · rename_i h2
        exact ⟨by omega, by omega, fun m hm => ⟨badP_none h1 m hm, badP_none h2 m hm⟩⟩
theorem pack_is {p most : Int} {l : List Msg} (hl : l.length ≤ 1000) (g : ∀ m ∈ l, GoodP p m) : g_pack_Pack (p, l, most, ()) = some (trip (packP p most l), ()) := by
  show h_pack_Pack fuel _ = _
  rw [h_pack_Pack_eq, check_is hl g, Option.bind_some]
  unfold packP
  refine ne_step (fun q => by rw [if_pos q]) (fun q => ?_)
  rw [if_neg (show ¬ (checkP p most l).2 ≠ 0 from fun c => c q)]
  have hc := (checkP_ok (show (checkP p most l).2 = 0 from q)).2.2
  rw [pack0_loop (n := fuel) (Nat.le_of_lt (fuel_ge (by omega))) l.length fuel l [] (Nat.le_refl _) (fuel_ge (by omega)) (by simp; omega) (fun m hm => ⟨g m hm, (hc m hm).2⟩)]
  rfl
theorem chunks_ok {p most : Int} : ∀ (k : Nat) (l : List Msg), l.length ≤ k → (∀ m ∈ l, fitsP p most [m] = true) → (chunks p most k l).flatten = l ∧ (∀ c ∈ chunks p most k l, c ≠ [] ∧ fitsP p most c = true) ∧ (chunks p most k l).length ≤ l.length
  | 0, l, h, _ => by
    have : l = [] := List.eq_nil_of_length_eq_zero (by omega)
    subst this
    exact ⟨rfl, (fun c hc => by cases hc), Nat.le_refl _⟩
  | k + 1, [], h, _ => ⟨by simp [chunks], (fun c hc => by simp [chunks] at hc), by simp [chunks]⟩
  | k + 1, m :: r, h, hf => by
    have h1 := cntP_pos (r := r) (hf m (by simp))
    have h2 := cntP_le (p := p) (most := most) (l := m :: r)
    have hc : chunks p most (k + 1) (m :: r) = (m :: r).take (cntP p most (m :: r)) :: chunks p most k ((m :: r).drop (cntP p most (m :: r))) := by rw [chunks, if_neg (by simp)]
    have hfit : fitsP p most ((m :: r).take (cntP p most (m :: r))) = true := cnt_fits _ _ h1
    have hdl : ((m :: r).drop (cntP p most (m :: r))).length = (m :: r).length - cntP p most (m :: r) := List.length_drop
    obtain ⟨k1, k2, k3⟩ := chunks_ok k ((m :: r).drop (cntP p most (m :: r))) (by omega) (fun x hx => hf x (List.mem_of_mem_drop hx))
    rw [hc]
    refine ⟨by rw [List.flatten_cons, k1, List.take_append_drop], fun c hcc => ?_, by rw [List.length_cons]; omega⟩
    rcases List.mem_cons.1 hcc with rfl | hcc
    · refine ⟨fun q => ?_, hfit⟩
      have := congrArg List.length q
      rw [List.length_take] at this
      simp only [List.length_nil] at this
      omega
    · exact k2 c hcc
end Go.VP
set_option linter.unusedVariables false
set_option linter.unusedSimpArgs false
set_option maxRecDepth 100000
namespace Go.VP
open Go Go.VI
theorem fitsP_ok {p most : Int} {l : List Msg} (h : fitsP p most l = true) : (encP p l).2.2 = 0 ∧ ((encP p l).1.length : Int) ≤ most := by
  unfold fitsP at h; exact of_decide_eq_true h
end Go.VP
set_option linter.unusedVariables false
set_option linter.unusedSimpArgs false
set_option maxRecDepth 100000
namespace Go.VP
open Go Go.VI
abbrev Act := S_ref30_Act
abbrev Told := S_ref30_Told
abbrev Desk := S_desk_Desk
noncomputable def tell (y : Act) : Told := if y.packs = true then ⟨[], (packP y.p y.most y.l).1, (packP y.p y.most y.l).2.1, (packP y.p y.most y.l).2.2⟩ else ⟨(parseP y.p y.b).1, [], (parseP y.p y.b).2.1, (parseP y.p y.b).2.2⟩
def sizeD : List Bs → Nat
  | [] => 0
  | b :: r => b.length + sizeD r
theorem sizeD_app (a : List Bs) (b : Bs) : sizeD (a ++ [b]) = sizeD a + b.length := by
  induction a with
  | nil => simp [sizeD]
  | cons x r ih => simp [sizeD, ih]; omega
theorem sizeD_le {k : Nat} : ∀ {a : List Bs}, (∀ b ∈ a, b.length ≤ k) → sizeD a ≤ a.length * k
  | [], _ => by simp [sizeD]
  | b :: r, h => by
    have := sizeD_le (a := r) (fun x hx => h x (List.mem_cons_of_mem _ hx))
    have := h b (List.mem_cons_self ..)
    rw [sizeD, List.length_cons, Nat.succ_mul]; omega
theorem sizeD_take {D : List Bs} {i : Nat} (h : i < D.length) : sizeD (D.take (i + 1)) = sizeD (D.take i) + (D[i]).length := by
  rw [List.take_succ_eq_append_getElem h, sizeD_app]
structure FewY (y : Act) : Prop where
  b : y.b.length ≤ 1000
  l : y.l.length ≤ 10
  g : ∀ m ∈ y.l, GoodQ m
theorem pack_few {p most : Int} {l : List Msg} : (packP p most l).1.length ≤ l.length ∧ ∀ b ∈ (packP p most l).1, b.length ≤ 65535 := by
  unfold packP
  by_cases hz : (checkP p most l).2 ≠ 0
  · rw [if_pos hz]; exact ⟨Nat.zero_le _, fun b hb => by cases hb⟩
  · rw [if_neg hz]
    have hc := (checkP_ok (Classical.byContradiction hz)).2.2
    obtain ⟨k1, k2, k3⟩ := chunks_ok (p := p) (most := most) l.length l (Nat.le_refl _) (fun m hm => (hc m hm).2)
    refine ⟨by unfold packD; rw [List.length_map]; exact k3, fun b hb => ?_⟩
    obtain ⟨c, hc, rfl⟩ := List.mem_map.1 hb
    exact (p_back (fitsP_ok (k2 c hc).2).1).2
noncomputable def bump (d : Desk) (n : Nat) (e : Int) : Desk := if e ≠ 0 then ⟨d.once_done_v, d.once_m_mu_state, d.once_m_mu_sema, (), d.closed_v, d.calls_v + 1, d.failed_v + 1, d.bytes_v⟩ else ⟨d.once_done_v, d.once_m_mu_state, d.once_m_mu_sema, (), d.closed_v, d.calls_v + 1, d.failed_v, d.bytes_v + n⟩
structure Wk (d : Desk) : Prop where
  calls : 0 ≤ d.calls_v ∧ d.calls_v ≤ 1000000000
  failed : 0 ≤ d.failed_v ∧ d.failed_v ≤ 1000000000
  bytes : 0 ≤ d.bytes_v ∧ d.bytes_v ≤ 1000000000000000
theorem load_is (v : Int) : g_sync_atomic_Int64_Load (⟨v⟩, ()) = some ((v, ()), (⟨v⟩, ())) := rfl
theorem loadB_is (v : Int) : g_sync_atomic_Bool_Load (⟨v⟩, ()) = some ((v != 0, ()), (⟨v⟩, ())) := rfl
theorem add_is (v d : Int) (h : -9223372036854775808 ≤ v + d ∧ v + d ≤ 9223372036854775807) : g_sync_atomic_Int64_Add (⟨v⟩, d, ()) = some ((v + d, ()), (⟨v + d⟩, ())) := by
  show some ((IntKind.wrap .i64 (v + d), ()), ((⟨IntKind.wrap .i64 (v + d)⟩ : S_atomic_Int64), ())) = _
  rw [w64 h.1 h.2]
theorem count_is {d : Desk} {n : Nat} {e : Int} (h : Wk d) (hn : n ≤ 1000000000000000) : g_desk_Desk_count (d, (n : Int), e, ()) = some ((), (bump d n e, ())) := by
  obtain ⟨⟨c1, c2⟩, ⟨f1, f2⟩, b1, b2⟩ := h
  rw [g_desk_Desk_count_eq, add_is _ _ (by omega), Option.bind_some]
  unfold bump
  refine ne_step (fun q => ?_) (fun q => ?_)
  · rw [if_pos q, add_is _ _ (by omega)]; rfl
  · rw [if_neg (fun c => c q), add_is _ _ (by omega)]; rfl
theorem dpack_loop {n : Nat} {d : Desk} {r2 : (List Bs × Int × Int × Unit) × Unit} {r1 : (Bool × Unit) × (S_atomic_Bool × Unit)} (h : Wk d) (hr : r1.2.1.v = d.closed_v) (hl : r2.1.1.length ≤ 100000) (hb : ∀ b ∈ r2.1.1, b.length ≤ 65535) :
    ∀ (k m i : Nat), i + k = r2.1.1.length → k < m → L_desk_Desk_Pack_0 n m r2 d r1 (sizeD (r2.1.1.take i)) i = some ((r2.1.1, r2.1.2.1, r2.1.2.2.1, ()), (bump d (sizeD r2.1.1) r2.1.2.2.1, ())) := by
  have hs := sizeD_le hb
  have hs' : r2.1.1.length * 65535 ≤ 100000 * 65535 := Nat.mul_le_mul_right _ hl
  intro k
  induction k with
  | zero =>
    intro m i hk hm
    obtain ⟨m, rfl⟩ : ∃ j, m = j + 1 := ⟨m - 1, by omega⟩
    rw [L_desk_Desk_Pack_0_eq, ifn (by omega), List.take_of_length_le (by omega), hr]
    rw [show (S_desk_Desk.mk d.once_done_v d.once_m_mu_state d.once_m_mu_sema d.kinds d.closed_v d.calls_v d.failed_v d.bytes_v) = d from rfl, count_is h (by omega)]
    rfl
  | succ k ih =>
    intro m i hk hm
    obtain ⟨m, rfl⟩ : ∃ j, m = j + 1 := ⟨m - 1, by omega⟩
    have hi : i < r2.1.1.length := by omega
    have := ih m (i + 1) (by omega) (by omega)
    have ht := sizeD_take hi
    have hle : sizeD (r2.1.1.take (i + 1)) ≤ 100000 * 65535 := by
      have h1 := sizeD_le (k := 65535) (a := r2.1.1.take (i + 1)) (fun b hb' => hb b (List.mem_of_mem_take hb'))
      have h2 : (r2.1.1.take (i + 1)).length * 65535 ≤ 100000 * 65535 := Nat.mul_le_mul_right _ (by rw [List.length_take]; omega)
      exact Nat.le_trans h1 h2
    rw [L_desk_Desk_Pack_0_eq, ifd (by omega), if_pos (by omega), Int.toNat_natCast, bind_at hi, w64 (by omega) (by omega), w64 (by omega) (by omega)]
    rw [show ((i + 1 : Nat) : Int) = (i : Int) + 1 by omega, ht, Int.natCast_add] at this
    exact this
theorem dpack_is {d : Desk} {p most : Int} {l : List Msg} (h : Wk d) (hl : l.length ≤ 1000) (g : ∀ m ∈ l, GoodP p m) : g_desk_Desk_Pack (d, p, l, most, ()) = if d.closed_v ≠ 0 then some (([], 0, 12, ()), (d, ())) else some (trip (packP p most l), (bump d (sizeD (packP p most l).1) (packP p most l).2.2, ())) := by
  show h_desk_Desk_Pack fuel _ = _
  rw [h_desk_Desk_Pack_eq, loadB_is, Option.bind_some]
  dsimp only
  refine ne_step (fun q => by rw [if_pos q]) (fun q => ?_)
  rw [if_neg (fun c => c q), pack_is hl g, Option.bind_some]
  obtain ⟨k1, k2⟩ := pack_few (p := p) (most := most) (l := l)
  exact dpack_loop (n := fuel) (d := d) (r2 := (trip (packP p most l), ())) h rfl (by dsimp only [trip]; omega) k2 (packP p most l).1.length fuel 0 (by simp [trip]) (fuel_ge (by omega))
theorem dparse_is {d : Desk} {p : Int} {b : Bs} (h : Wk d) (hb : b.length ≤ 100000) : g_desk_Desk_Parse (d, p, b, ()) = if d.closed_v ≠ 0 then some (([], 0, 12, ()), (d, ())) else some (trip (parseP p b), (bump d b.length (parseP p b).2.2, ())) := by
  rw [g_desk_Desk_Parse_eq, loadB_is, Option.bind_some]
  dsimp only
  refine ne_step (fun q => by rw [if_pos q]) (fun q => ?_)
  rw [if_neg (fun c => c q), sparse_is hb, Option.bind_some]
  dsimp only [trip]
  rw [show (S_desk_Desk.mk d.once_done_v d.once_m_mu_state d.once_m_mu_sema d.kinds d.closed_v d.calls_v d.failed_v d.bytes_v) = d from rfl, count_is h (by omega)]
  rfl
theorem stats_is (d : Desk) : g_desk_Desk_Stats (d, ()) = some ((d.calls_v, d.failed_v, d.bytes_v, ()), (d, ())) := by
  rw [g_desk_Desk_Stats_eq, load_is, Option.bind_some, load_is, Option.bind_some, load_is, Option.bind_some]
end Go.VP
set_option linter.unusedVariables false
set_option linter.unusedSimpArgs false
set_option maxRecDepth 100000
namespace Go.VP
open Go Go.VI
theorem awakeT : g_top_awake () = some ((true, ()), ()) := by kernel_rfl
theorem awbT {α : Type} (f : (Bool × Unit) × Unit → Option α) : (g_top_awake ()).bind f = f ((true, ()), ()) := by rw [awakeT]; rfl
end Go.VP
