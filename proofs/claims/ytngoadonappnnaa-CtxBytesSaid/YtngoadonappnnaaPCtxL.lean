/- What a parser of Babel knows: Updates that may be, by program and document; the laws' example; bytes that are left out. -/
import Derived.Test.YtngoadonappnnaaFQ1
import Derived.Test.YtngoadonappnnaaFQ6
import Derived.Test.YtngoadonappnnaaFQ9
import Derived.Test.YtngoadonappnnaaPBase
import Derived.Test.YtngoadonappnnaaPCur
import Derived.Test.YtngoadonappnnaaPOct
import Derived.Test.YtngoadonappnnaaPTlv
import Derived.Test.YtngoadonappnnaaPSub
import Derived.Test.YtngoadonappnnaaPMsg
import Derived.Test.YtngoadonappnnaaPAll
import Derived.Test.YtngoadonappnnaaPAddr
import Derived.Test.YtngoadonappnnaaPBits
import Derived.Test.YtngoadonappnnaaPField
import Derived.Test.YtngoadonappnnaaPFieldG
import Derived.Test.YtngoadonappnnaaPFieldB
import Derived.Test.YtngoadonappnnaaPRoute
import Derived.Test.YtngoadonappnnaaPRouteG
import Derived.Test.YtngoadonappnnaaPTake
import Derived.Test.YtngoadonappnnaaPRouteB
import Derived.Test.YtngoadonappnnaaPCtx
import Derived.Test.YtngoadonappnnaaPCtxU
import Derived.Test.YtngoadonappnnaaPOk
import Derived.Test.YtngoadonappnnaaPCtxV
import Derived.Test.YtngoadonappnnaaPCtxW
import Derived.Test.YtngoadonappnnaaPCtxX
import Derived.Test.YtngoadonappnnaaPIntake
import Derived.Test.YtngoadonappnnaaPFold
import Derived.Test.YtngoadonappnnaaPParts
import Derived.Test.YtngoadonappnnaaPUpd
import Derived.Test.YtngoadonappnnaaPLeanR
set_option linter.unusedVariables false
set_option linter.unusedSimpArgs false
set_option maxRecDepth 100000
namespace Go.VP
open Go Go.VI
theorem rfam6_is (a : Bs) : g_ref06_Family (a, ()) = some ((famF a, ()), ()) := by
  rw [g_ref06_Family_eq]; unfold famF
  refine bq_step (fun h => by rw [if_pos (by omega)]) (fun h => ?_)
  rw [if_neg (show ¬ a.length = 4 by omega)]
  exact bq_step (fun h => by rw [if_pos (by omega)]) (fun h => by rw [if_neg (by omega)])
theorem either_is (s : Bs) (g : Bool) : g_ctx_either (s, g, ()) = some ((decide (s = []) || g, ()), ()) := by
  rw [g_ctx_either_eq]
  refine be_step (fun h => by simp [h]) (fun h => by simp [h])
theorem famF0 (a : Bs) : (famF a == 0) = decide (a.length = 4) := by
  unfold famF
  by_cases h : a.length = 4
  · simp [h]
  · rw [if_neg h]; split <;> simp [h]
theorem famF1 (a : Bs) : (famF a == 1) = decide (a.length = 16) := by
  unfold famF
  by_cases h : a.length = 4
  · rw [if_pos h, h]; rfl
  · rw [if_neg h]; split
    · rename_i h2; simp [h2]
    · rename_i h2; simp [h2]
theorem dec_or {p q : Prop} [Decidable p] [Decidable q] : (decide p || decide q) = decide (p ∨ q) := by rw [Bool.eq_iff_iff]; simp
theorem okp_is (c : Ctx) : g_ctx_Ok (c, ()) = some ((okB c, ()), ()) := by
  rw [g_ctx_Ok_eq]
  simp only [fam_is, link_is, either_is, Option.bind_some, famF0, famF1]
  have e8 : ((c.id.length : Int) == 8) = decide (c.id.length = 8) := len8 c.id
  have e3 : (decide (c.prefix_c3 = []) || linkB c.prefix_c3) = decide (c.prefix_c3 = [] ∨ linkB c.prefix_c3 = true) := by rw [Bool.eq_iff_iff]; simp
  simp only [dec_or, e8, e3]
  unfold okB
  refine be_step (fun h => ?_) (fun h => by rw [decide_eq_false h, Bool.false_and])
  rw [decide_eq_true h, Bool.true_and]
  cases decide (c.prefix_c1 = [] ∨ c.prefix_c1.length = 4)
  · rfl
  cases decide (c.prefix_c2 = [] ∨ c.prefix_c2.length = 16)
  · rfl
  cases decide (c.prefix_c3 = [] ∨ linkB c.prefix_c3 = true)
  · rfl
  cases decide (c.next_c0 = [] ∨ c.next_c0.length = 4)
  · rfl
  cases decide (c.next_c1 = [] ∨ c.next_c1.length = 16)
  · rfl
  rfl
theorem nb_and {R : Type} {b S : Bool} {t : Option R} {f : Bool → Option R} (h : b = true → t = f S) : (if (!b) = true then f false else t) = f (b && S) := by
  cases b with
  | true => rw [ifnt, Bool.true_and]; exact h rfl
  | false => rw [ifnf, Bool.false_and]
theorem fits2 {n : Int} (hn : IntKind.has .i64 n) : g_octet_Fits (n, 2, ()) = some ((fitsB n 2, ()), ()) := fits_is (k := 2) hn (by omega) (by omega)
theorem two22_is {n : Int} : g_ref22_two (n, ()) = some ((fitsB n 2, ()), ()) := by
  rw [g_ref22_two_eq, show g_ref02_Fits (n, 2, ()) = some ((fitsB n 2, ()), ()) from rfits_is (k := 2) (by omega) (by omega)]; rfl
theorem fewS_of {m : Msg} (g : GoodM m) : FewS m.subs := g.few.fewS
theorem cright_is {m : Msg} (g : GoodL m) : g_ctx_Right (m, ()) = some ((updB m, ()), ()) := by
  have hl := g.good.few
  have := hl.id; have := hl.next; have := hl.pre
  rw [g_ctx_Right_eq]
  unfold updB
  refine ne_step (fun h => by rw [decide_eq_false h, Bool.false_and]) (fun h => ?_)
  rw [decide_eq_true h, Bool.true_and, bare_is, Option.bind_some]
  dsimp only
  refine nb_and (f := fun b => some ((b, ()), ())) (fun _ => ?_)
  rw [sright_is (fewS_of g.good), Option.bind_some]
  refine nb_and (f := fun b => some ((b, ()), ())) (fun _ => ?_)
  rw [in_is (by omega) g.good.plen, Option.bind_some]
  refine nb_and (f := fun b => some ((b, ()), ())) (fun _ => ?_)
  rw [fits2 g.good.interval, Option.bind_some]
  refine nb_and (f := fun b => some ((b, ()), ())) (fun _ => ?_)
  rw [fits2 g.good.seq, Option.bind_some]
  refine nb_and (f := fun b => some ((b, ()), ())) (fun _ => ?_)
  rw [fits2 g.metric, Option.bind_some]
  refine nb_and (f := fun b => some ((b, ()), ())) (fun _ => ?_)
  unfold tailB
  refine bq_step (fun h => ?_) (fun h => ?_)
  · rw [if_pos h, if_pos (maxB_of (by omega))]
    have : (m.id ++ m.next == ([] : Bs)) = (m.id == [] && m.next == []) := by
      rw [Bool.eq_iff_iff]; simp
    rw [this]
  · rw [if_neg h]
    by_cases ha : 0 < m.ae
    · rw [ifd ha, decide_eq_true ha, Bool.true_and, len8]
      cases h8 : decide (m.id.length = 8) with
      | false => rw [iff_, Bool.false_and]
      | true =>
        rw [ift, fam_is, Option.bind_some, cfam_is, Option.bind_some, either_is, Option.bind_some, Bool.true_and]
        have e1 : (m.next == ([] : Bs)) = decide (m.next = []) := by rw [Bool.eq_iff_iff]; simp
        have e2 : (famF m.next == famE m.ae) = decide (famF m.next = famE m.ae) := by rw [Bool.eq_iff_iff]; simp
        rw [e1]
        dsimp only
        rw [e2]
    · rw [ifn ha, decide_eq_false ha, Bool.false_and]
theorem rcright_is {m : Msg} (g : GoodL m) (ha : UpdR m ∨ 0 ≤ m.ae ∨ True) : g_ref22_Right (m, ()) = some ((updB m, ()), ()) := by
  have hl := g.good.few
  have := hl.id; have := hl.next; have := hl.pre; have := hl.list; have := hl.subs
  rw [g_ref22_Right_eq]
  unfold updB
  refine ne_step (fun h => by rw [decide_eq_false h, Bool.false_and]) (fun h => ?_)
  rw [decide_eq_true h, Bool.true_and, rbare_is (by omega) (by omega), Option.bind_some]
  dsimp only
  refine nb_and (f := fun b => some ((b, ()), ())) (fun _ => ?_)
  rw [rsright_is (fewS_of g.good), Option.bind_some]
  refine nb_and (f := fun b => some ((b, ()), ())) (fun _ => ?_)
  rw [rin_is (by omega), Option.bind_some]
  refine nb_and (f := fun b => some ((b, ()), ())) (fun hin => ?_)
  have hae := (inB_iff.1 hin).1
  rw [two22_is, Option.bind_some]
  refine nb_and (f := fun b => some ((b, ()), ())) (fun _ => ?_)
  rw [two22_is, Option.bind_some]
  refine nb_and (f := fun b => some ((b, ()), ())) (fun _ => ?_)
  rw [two22_is, Option.bind_some]
  refine nb_and (f := fun b => some ((b, ()), ())) (fun _ => ?_)
  unfold tailB
  refine bq_step (fun h => ?_) (fun h => ?_)
  · rw [if_pos h]
    cases (m.id == ([] : Bs)) <;> rfl
  · rw [if_neg h]
    refine ne_step (fun h0 => ?_) (fun h0 => ?_)
    · rw [decide_eq_true (show 0 < m.ae by omega), Bool.true_and, len8]
      cases h8 : decide (m.id.length = 8) with
      | false => rw [iff_, Bool.false_and]
      | true =>
        rw [ift, Bool.true_and]
        have e2 : (famF m.next == famE m.ae) = decide (famF m.next = famE m.ae) := by rw [Bool.eq_iff_iff]; simp
        rw [rfam6_is, Option.bind_some, rcfam_is, Option.bind_some]
        dsimp only
        rw [e2]
        cases (m.next == ([] : Bs)) <;> rfl
    · rw [decide_eq_false (show ¬ 0 < m.ae by omega), Bool.false_and]
theorem goodL {m : Msg} (g : Good_api_Msg m) (h : Lite m) : GoodL m := by
  obtain ⟨g1, g2, g3, g4, g5, g6, g7, g8, g9, g10, g11, g12, g13, g14, g15, g16, g17, g18, g19, g20, g21, g22, g23, _⟩ := g
  exact ⟨⟨h, g18, g15, g13, g19, g1, g16, g6, g8, g17⟩, g23, g11⟩
/-! the example -/
def exU : Msg := ⟨11, 0, 0, [], 0, 1, [10, 1, 7, 0], 24, 0, [], 3, [97, 98, 99, 100, 101, 102, 103, 104], 2, 0, 1, 0, 0, 0, 0, [], [], [], 0, [], []⟩
def exC : Ctx := ⟨[], [10, 1, 2, 0], [], [], [], [], [97, 98, 99, 100, 101, 102, 103, 104]⟩
theorem exU_ok : UpdR exU := by
  have hb : bareOf exU = some exU := by unfold bareOf; rfl
  refine ⟨rfl, by rw [bareB, hb]; exact eqB_refl _, rfl, ?_, by decide, by decide, by decide, fun h => absurd h (by decide), fun _ => ⟨by decide, rfl, .inl rfl⟩⟩
  exact inB_iff.2 ⟨by decide, rfl, by decide, by decide +kernel, fun h => absurd h (by decide)⟩
theorem exU_good : GoodL exU := by
  have e0 : ([] : Bs).length ≤ 400 := by decide
  exact ⟨⟨⟨by decide, by decide, by decide, by decide, by decide, by decide, by decide, by decide, by decide, (fun d h => by cases h), (fun d h => by cases h)⟩, has64.2 (by decide), has64.2 (by decide), has64.2 (by decide), has64.2 (by decide), has64.2 (by decide), has64.2 (by decide), has64.2 (by decide), has64.2 (by decide), has64.2 (by decide)⟩, has64.2 (by decide), has64.2 (by decide)⟩
theorem exC_ok : okC exC := ⟨rfl, .inr rfl, .inl rfl, .inl rfl, .inl rfl, .inl rfl, .inr rfl⟩
theorem exU_bytes : bytesP exU = [10, 1, 7] := by
  have h : cutF [10, 1, 7, 0] 24 = [10, 1, 7] := by
    have : leastF 24 = 3 := rfl
    unfold cutF; rw [this]
    exact keepF_all (by decide)
  show (cutF [10, 1, 7, 0] 24).drop (baseA 1).toNat = _
  rw [h]; rfl
theorem exU_updD : updD exU 2 = [1, 128, 24, 2, 0, 1, 0, 2, 0, 3, 7] := by
  unfold updD; rw [exU_bytes]; rfl
theorem exU_step : stepC exC 8 [1, 128, 24, 2, 0, 1, 0, 2, 0, 3, 7] = (setP exC 1 [10, 1, 7, 0], [exU], 0) := by
  have := updF_upd (c := exC) (m := exU) (n := 2) exC_ok exU_ok (by rw [exU_bytes]; decide) (fun _ => ⟨by decide, by rw [exU_bytes]; rfl⟩) (fun _ => ⟨rfl, rfl⟩)
  rw [exU_updD] at this
  unfold stepC
  rw [if_neg (by decide), if_neg (by decide), if_pos rfl, this]; rfl
theorem awake22 : g_law22_awake () = some ((true, ()), ()) := by
  have hs := cstep_is (c := exC) (ty := 8) (at_ := 0) (d := [1, 128, 24, 2, 0, 1, 0, 2, 0, 3, 7]) exC_ok (by decide)
  rw [exU_step] at hs
  have ho := okp_is exC
  rw [okB_iff.2 exC_ok] at ho
  have hr := cright_is exU_good
  rw [updR_iff.2 exU_ok] at hr
  rw [g_law22_awake_eq]
  show ((g_ctx_Step (exC, ⟨8, 0, [1, 128, 24, 2, 0, 1, 0, 2, 0, 3, 7]⟩, ())).bind _) = _
  rw [hs, Option.bind_some]
  show (if ((0 : Int) == 0) = true then _ else _) = _
  rw [if_pos (by decide), if_pos (by decide)]
  have hg : ([exU] : List Msg)[0]? = some exU := rfl
  show (([exU] : List Msg)[0]?.bind _) = _
  rw [hg, Option.bind_some]
  refine be_step (fun _ => ?_) (fun h => absurd rfl h)
  rw [Option.bind_some]
  refine be_step (fun _ => ?_) (fun h => absurd rfl h)
  refine be_step (fun _ => ?_) (fun h => absurd rfl h)
  have ho' : g_ctx_Ok ((S_api_Ctx.mk ([] : List UInt8) ([10, 1, 2, 0] : List UInt8) ([] : List UInt8) ([] : List UInt8) ([] : List UInt8) ([] : List UInt8) ([97, 98, 99, 100, 101, 102, 103, 104] : List UInt8)), ()) = some ((true, ()), ()) := ho
  rw [ho', Option.bind_some]
  dsimp only
  rw [ift, Option.bind_some, hr, Option.bind_some]
  dsimp only
  rw [ift, cfam_is]; rfl
theorem awb22 {α : Type} (f : (Bool × Unit) × Unit → Option α) : (g_law22_awake ()).bind f = f ((true, ()), ()) := by rw [awake22]; rfl
theorem ctx_eqs2 (c : Ctx) : ((c.prefix_c0 == c.prefix_c0) && ((c.prefix_c1 == c.prefix_c1) && ((c.prefix_c2 == c.prefix_c2) && ((c.prefix_c3 == c.prefix_c3) && ((c.next_c0 == c.next_c0) && ((c.next_c1 == c.next_c1) && (c.id == c.id))))))) = true := by simp
theorem GoodL.small' {m : Msg} (g : GoodL m) : Small m := by
  have := g.good.few.list; have := g.good.few.subs; exact ⟨by omega, by omega⟩
/-- What a step tells: nothing, or one message that may be. -/
theorem stepC_cases {c : Ctx} {ty : Int} {d : Bs} (hc : okC c) (hd : d.length ≤ 900) : (stepC c ty d).2.1 = [] ∨ ∃ m, (stepC c ty d).2.1 = [m] ∧ UpdR m ∧ GoodL m ∧ (stepC c ty d).2.2 = 0 := by
  unfold stepC
  split
  · exact .inl rfl
  split
  · exact .inl rfl
  split
  · rcases updF_cases hc hd with h | ⟨m, h1, h2, h3, _, h5, _⟩
    · exact .inl h
    · exact .inr ⟨m, h1, h2, h3, h5⟩
  · exact .inl rfl
theorem idF_err {c : Ctx} {d : Bs} (h : (idF c d).2 ≠ 0) : (idF c d).1 = c := by
  unfold idF at h ⊢; split
  · rename_i q; rw [if_pos q] at h; exact absurd rfl h
  · rfl
theorem hopF_err {c : Ctx} {d : Bs} (h : (hopF c d).2 ≠ 0) : (hopF c d).1 = c := by
  unfold hopF at h ⊢; split
  · rfl
  split
  · rfl
  split
  · rename_i a b q; rw [if_neg a, if_neg b, if_pos q] at h; exact absurd rfl h
  · rfl
theorem updF_err {c : Ctx} {d : Bs} (h : (updF c d).2.2 ≠ 0) : (updF c d).1 = c ∧ (updF c d).2.1 = [] := by
  unfold updF at h ⊢; split
  · rename_i q; rw [if_pos q] at h
    split
    · rename_i q2; rw [if_pos q2] at h
      split at h <;> exact absurd rfl h
    · exact ⟨rfl, rfl⟩
  · exact ⟨rfl, rfl⟩
theorem stepC_err {c : Ctx} {ty : Int} {d : Bs} (h : (stepC c ty d).2.2 ≠ 0) : (stepC c ty d).1 = c ∧ (stepC c ty d).2.1 = [] := by
  unfold stepC at h ⊢
  split
  · rename_i q; rw [if_pos q] at h; exact ⟨idF_err h, rfl⟩
  rename_i q1; rw [if_neg q1] at h
  split
  · rename_i q; rw [if_pos q] at h; exact ⟨hopF_err h, rfl⟩
  rename_i q2; rw [if_neg q2] at h
  split
  · rename_i q; rw [if_pos q] at h; exact updF_err h
  · exact ⟨rfl, rfl⟩
/-! bytes that are left out -/
theorem bt_left {a b : Bs} {i : Nat} (h : i < a.length) : bt (a ++ b) i = bt a i := by unfold bt; rw [List.getElem?_append_left h]
theorem bt_right {a b : Bs} {i k : Nat} (h : a.length = k) : bt (a ++ b) (k + i) = bt b i := by unfold bt; rw [List.getElem?_append_right (by omega), show k + i - a.length = i by omega]
theorem cut_left {a b : Bs} {p n : Int} (h : (p + n).toNat ≤ a.length) : cut_ (a ++ b) p n = cut_ a p n := by unfold cut_; rw [List.take_append_of_le_length h]
/-- An Update's bytes, without k of its prefix's. -/
def lessD (d : Bs) (k : Nat) : Bs := ((d.take 3 ++ [u8of (k : Int)]) ++ (d.take 10).drop 4) ++ d.drop (10 + k)
theorem takeG_less {d : Bs} {k : Nat} (hd : 10 ≤ d.length) (h256 : d.length ≤ 255) (ha : bt d 0 ≤ 3) (h3 : bt d 3 = 0) (hk : (k : Int) ≤ restN (bt d 0) (bt d 2) 0) (hkd : 10 + k ≤ d.length) (h0 : (takeG d).2.2 = 0) :
    (takeG d).2.1 = true ∧ (takeG d).1.omitted = 0 ∧ (takeG d).1.ae = bt d 0 ∧ (takeG d).1.bytes = (d.drop 10).take (restN (bt d 0) (bt d 2) 0).toNat ∧
    takeG (lessD d k) = (⟨(takeG d).1.ae, (takeG d).1.flags, (takeG d).1.plen, k, (takeG d).1.interval, (takeG d).1.seq, (takeG d).1.metric, (takeG d).1.have_, (takeG d).1.bytes.drop k, (takeG d).1.subs⟩, true, 0) := by
  obtain ⟨a3, x, m6, r, e, l3, l6, e1, e2⟩ : ∃ (a3 : Bs) (x : UInt8) (m6 r : Bs), d = a3 ++ ([x] ++ (m6 ++ r)) ∧ a3.length = 3 ∧ m6.length = 6 ∧ d.drop 10 = r ∧ lessD d k = a3 ++ ([u8of (k : Int)] ++ (m6 ++ r.drop k)) := by
    refine ⟨d.take 3, d[3]'(by omega), (d.take 10).drop 4, d.drop 10, ?_, by simp; omega, by simp; omega, rfl, ?_⟩
    · have h1 : d = d.take 3 ++ d.drop 3 := (List.take_append_drop ..).symm
      have h2 : d.drop 3 = d[3]'(by omega) :: d.drop 4 := List.drop_eq_getElem_cons (by omega)
      have h4 : d.drop 4 = (d.take 10).drop 4 ++ d.drop 10 := by
        have : d.drop 4 = (d.drop 4).take 6 ++ (d.drop 4).drop 6 := (List.take_append_drop ..).symm
        rw [this, List.drop_drop, List.drop_take]
      conv => lhs; rw [h1, h2, h4]
      rfl
    · unfold lessD
      rw [List.drop_drop, List.append_assoc, List.append_assoc]
  have hr : r.length = d.length - 10 := by rw [← e1]; simp
  have hL : (lessD d k).length = d.length - k := by rw [e2]; simp; omega
  have b0 : bt (lessD d k) 0 = bt d 0 := by rw [e2, e, bt_left (by omega), bt_left (by omega)]
  have b1 : bt (lessD d k) 1 = bt d 1 := by rw [e2, e, bt_left (by omega), bt_left (by omega)]
  have b2 : bt (lessD d k) 2 = bt d 2 := by rw [e2, e, bt_left (by omega), bt_left (by omega)]
  have b3 : bt (lessD d k) 3 = k := by
    rw [e2]
    have := bt_right (a := a3) (b := [u8of (k : Int)] ++ (m6 ++ r.drop k)) (i := 0) l3
    rw [show 3 + 0 = 3 from rfl] at this
    rw [this]
    show ((u8of (k : Int)).toNat : Int) = k
    rw [u8of_int, if_pos (by omega)]; omega
  have cc : ∀ (y : UInt8) (z : Bs) (p : Int), 4 ≤ p → (p + 2).toNat ≤ 10 → cut_ (a3 ++ ([y] ++ (m6 ++ z))) p 2 = cut_ m6 (p - 4) 2 := fun y z p hp hp2 => by
    rw [cutR (k := 3) l3 (by omega) (by omega), cutR (k := 1) rfl (by omega) (by omega), cut_left (by omega)]
    congr 1; omega
  have c4 : cut_ (lessD d k) 4 2 = cut_ d 4 2 := by rw [e2, e, cc _ _ _ (by omega) (by omega), cc _ _ _ (by omega) (by omega)]
  have c6 : cut_ (lessD d k) 6 2 = cut_ d 6 2 := by rw [e2, e, cc _ _ _ (by omega) (by omega), cc _ _ _ (by omega) (by omega)]
  have c8 : cut_ (lessD d k) 8 2 = cut_ d 8 2 := by rw [e2, e, cc _ _ _ (by omega) (by omega), cc _ _ _ (by omega) (by omega)]
  have c10 : ∀ (y : UInt8) (z : Bs) (n : Nat), cut_ (a3 ++ ([y] ++ (m6 ++ z))) 10 (n : Int) = z.take n := fun y z n => by
    rw [cutR (k := 3) l3 (by omega) (by omega), cutR (k := 1) rfl (by omega) (by omega), cutR (k := 6) l6 (by omega) (by omega)]
    unfold cut_
    simp
  have dr : ∀ (y : UInt8) (z : Bs) (n : Nat), (a3 ++ ([y] ++ (m6 ++ z))).drop (10 + n) = z.drop n := fun y z n => by
    have : (a3 ++ ([y] ++ m6)).length = 10 := by simp; omega
    rw [show a3 ++ ([y] ++ (m6 ++ z)) = (a3 ++ ([y] ++ m6)) ++ z by simp, ← List.drop_drop, List.drop_left' this]
  have hrn : restN (bt d 0) (bt d 2) k = restN (bt d 0) (bt d 2) 0 - k := by unfold restN; omega
  obtain ⟨R, hR⟩ : ∃ R : Nat, restN (bt d 0) (bt d 2) 0 = R := ⟨(restN (bt d 0) (bt d 2) 0).toNat, by omega⟩
  have hlen10 : ((10 : Int) + restN (bt d 0) (bt d 2) 0).toNat = 10 + R := by omega
  have hlen10' : ((10 : Int) + restN (bt d 0) (bt d 2) k).toNat = 10 + (R - k) := by omega
  have hdrop : (lessD d k).drop (10 + (R - k)) = d.drop (10 + R) := by
    rw [e2, dr, e, dr, List.drop_drop]
    congr 1; omega
  unfold takeG at h0 ⊢
  rw [if_neg (show ¬ ((lessD d k).length : Int) < 10 by omega)]
  rw [if_neg (show ¬ (d.length : Int) < 10 by omega), if_neg (show ¬ 3 < bt d 0 by omega)] at h0
  rw [if_neg (show ¬ (d.length : Int) < 10 by omega), if_neg (show ¬ 3 < bt d 0 by omega)]
  rw [b0, b1, b2, b3, c4, c6, c8, if_neg (show ¬ 3 < bt d 0 by omega)]
  rw [h3] at h0 ⊢
  dsimp only at h0 ⊢
  have hg : greatB (bt d 0) (bt d 2) = false := by
    cases hg : greatB (bt d 0) (bt d 2) with
    | false => rfl
    | true =>
      have : preF d 10 (bt d 0) (bt d 2) 0 = ([], 6) := preF_great hg
      rw [this] at h0; dsimp only at h0; rw [if_pos (by decide)] at h0; exact absurd h0 (by decide)
  by_cases hl : (d.length : Int) < 10 + restN (bt d 0) (bt d 2) 0
  · have := preF_short (om := 0) hg (by omega) hl
    rw [this] at h0; dsimp only at h0; rw [if_pos (by decide)] at h0; exact absurd h0 (by decide)
  have p1 : preF d 10 (bt d 0) (bt d 2) 0 = (r.take R, 0) := by
    rw [preF_fine hg (by omega) hl, hR]
    conv => lhs; rw [e, c10]
  have p2 : preF (lessD d k) 10 (bt d 0) (bt d 2) k = ((r.take R).drop k, 0) := by
    rw [preF_fine hg (by omega) (by omega), show restN (bt d 0) (bt d 2) k = ((R - k : Nat) : Int) by omega]
    conv => lhs; rw [e2, c10]
    rw [List.drop_take]
  rw [p1] at h0 ⊢
  rw [p2]
  dsimp only at h0 ⊢
  rw [hlen10] at h0 ⊢
  rw [hlen10', hdrop]
  rw [if_neg (show ¬ (0 : Int) ≠ 0 by decide)] at h0
  rw [if_neg (show ¬ (0 : Int) ≠ 0 by decide), if_neg (show ¬ (0 : Int) ≠ 0 by decide)]
  by_cases hx : (getS (d.drop (10 + R))).2.2 ≠ 0
  · rw [if_pos hx] at h0; exact absurd h0 hx
  · rw [if_neg hx, if_neg hx]
    refine ⟨rfl, rfl, rfl, ?_, rfl⟩
    dsimp only
    rw [hR, Int.toNat_natCast, e1]
theorem updF_less {c : Ctx} {d : Bs} {k : Nat} (hd : 10 ≤ d.length) (h256 : d.length ≤ 255) (ha : 1 ≤ bt d 0 ∧ bt d 0 ≤ 3) (h3 : bt d 3 = 0) (hk : (k : Int) ≤ restN (bt d 0) (bt d 2) 0) (hkd : 10 + k ≤ d.length)
    (hp : preC c (bt d 0) ≠ []) (he : (d.drop 10).take k = ((preC c (bt d 0)).drop (baseA (bt d 0)).toNat).take k) (h0 : (updF c d).2.2 = 0) : updF c (lessD d k) = updF c d := by
  have ht0 : (takeG d).2.2 = 0 := by
    unfold updF at h0
    by_cases h : (takeG d).2.1 = true
    · exact (takeG_raw h).2
    · rw [if_neg h] at h0; exact h0
  obtain ⟨q1, q2, q3, q4, q5⟩ := takeG_less hd h256 ha.2 h3 hk hkd ht0
  have hbs := baseA_rng (bt d 0)
  have had : addrF c (takeG (lessD d k)).1 = addrF c (takeG d).1 := by
    rw [q5]
    by_cases hk0 : k = 0
    · subst hk0
      rw [List.drop_zero]
      have : (⟨(takeG d).1.ae, (takeG d).1.flags, (takeG d).1.plen, ((0 : Nat) : Int), (takeG d).1.interval, (takeG d).1.seq, (takeG d).1.metric, (takeG d).1.have_, (takeG d).1.bytes, (takeG d).1.subs⟩ : Raw) = (takeG d).1 := by
        rw [show ((0 : Nat) : Int) = (takeG d).1.omitted from q2.symm]
      dsimp only
      rw [this]
    · unfold addrF
      dsimp only
      rw [if_neg (show ¬ (k : Int) = 0 by omega), if_pos q2, q3, if_neg hp]
      have hcut : cut_ (preC c (bt d 0)) (baseA (bt d 0)) (k : Int) = (takeG d).1.bytes.take k := by
        have : cut_ (preC c (bt d 0)) (baseA (bt d 0)) (k : Int) = ((preC c (bt d 0)).drop (baseA (bt d 0)).toNat).take k := by
          unfold cut_
          rw [List.drop_take, show (baseA (bt d 0) + (k : Int)).toNat - (baseA (bt d 0)).toNat = k by omega]
        rw [this, ← he, q4, List.take_take, Nat.min_eq_left (by omega)]
      rw [hcut, List.take_append_drop]
  unfold updF
  have t2 : (takeG (lessD d k)).2.1 = true := by rw [q5]
  rw [if_pos t2, if_pos q1, had]
  rw [q5]
  rfl
end Go.VP
