import Derived.Test.YtjdlhgdklmkkhaaGreatG1M0
import Derived.Test.YtjdlhgdklmkkhaaGreatG1FQ0
import Derived.Test.YtjdlhgdklmkkhaaGreatG1FQ13
import Derived.Test.YtjdlhgdklmkkhaaGreatG1FH
import Derived.Test.YtjdlhgdklmkkhaaGreatG1FQ9
import Derived.Test.YtjdlhgdklmkkhaaGreatG1FQ14
import Derived.Test.YtjdlhgdklmkkhaaGreatG1FQ10
import Derived.Test.YtjdlhgdklmkkhaaGreatG1FQ11
import Derived.Test.YtjdlhgdklmkkhaaGreatG1FQ12
import Derived.Test.YtjdlhgdklmkkhaaGreatG1FQ8
set_option linter.unusedVariables false
set_option linter.unusedSimpArgs false
set_option maxRecDepth 100000
namespace Go.VP
open Go Go.VI
theorem linkP_len : linkP.length = 8 := rfl
theorem keep_link {x : Bs} {n : Int} (h : 64 ≤ n) (hx : x.length = 8) : linkB (keepF (linkP ++ x) n) = true := by
  rw [keepF_append, keepF_all (s := linkP) (by rw [linkP_len]; omega)]
  exact link_long (by rw [keepF_length]; exact hx)
theorem wholeF_len {ae plen : Int} {b : Bs} (hae : 0 ≤ ae ∧ ae < 4) (hb : (b.length : Int) ≤ szA ae - baseA ae) : ((wholeF ae b plen).length : Int) = szA ae := by
  unfold wholeF
  rw [keepF_length]
  rcases ae_cases hae with rfl | rfl | rfl | rfl
  · have : (b.length : Int) ≤ 0 - 0 := hb
    rw [if_neg (by decide), fillF_length]; show ((max b.length (0 : Int).toNat : Nat) : Int) = 0; omega
  · have : (b.length : Int) ≤ 4 - 0 := hb
    rw [if_neg (by decide), fillF_length]; show ((max b.length (4 : Int).toNat : Nat) : Int) = 4; omega
  · have : (b.length : Int) ≤ 16 - 0 := hb
    rw [if_neg (by decide), fillF_length]; show ((max b.length (16 : Int).toNat : Nat) : Int) = 16; omega
  · have : (b.length : Int) ≤ 16 - 8 := hb
    rw [if_pos rfl, List.length_append, fillF_length, linkP_len]; show ((8 + max b.length (8 : Int).toNat : Nat) : Int) = 16; omega
theorem wholeF_link {plen : Int} {b : Bs} (h : 64 ≤ plen) (hb : b.length ≤ 8) : linkB (wholeF 3 b plen) = true := by
  unfold wholeF
  rw [if_pos rfl]
  exact keep_link h (by rw [fillF_length]; show max b.length 8 = 8; omega)
theorem clean_parts {a : Bs} {n : Int} (h : keepF a n = a) (h0 : 0 ≤ n) : a = a.take (leastF n).toNat ++ List.replicate (a.length - (leastF n).toNat) 0 ∧ cutF a n = a.take (leastF n).toNat := by
  have hl : 8 * leastF n ≥ n := by unfold leastF; rw [if_neg (by omega)]; omega
  have hn := leastF_nn n
  have e1 : keepF (a.take (leastF n).toNat) n = a.take (leastF n).toNat := by rw [← keepF_take, h]
  refine ⟨?_, e1⟩
  by_cases hs : (leastF n).toNat ≤ a.length
  · have e2 : keepF (a.drop (leastF n).toNat) (n - 8 * (a.take (leastF n).toNat).length) = a.drop (leastF n).toNat := by
      have := h
      conv at this => lhs; rw [← List.take_append_drop (leastF n).toNat a]
      rw [keepF_append, e1] at this
      conv at this => rhs; rw [← List.take_append_drop (leastF n).toNat a]
      exact List.append_cancel_left this
    rw [keepF_none (by rw [List.length_take]; omega), List.length_drop] at e2
    conv => lhs; rw [← List.take_append_drop (leastF n).toNat a, ← e2]
  · rw [List.take_of_length_le (by omega), show a.length - (leastF n).toNat = 0 by omega]; simp
theorem wholeF_back {m : Msg} (r : RouteR m) : wholeF m.ae (bytesP m) m.plen = m.prefix_ := by
  obtain ⟨l1, l2, l3, l4, l5, l6⟩ := least_base r.ae r.plen
  obtain ⟨p1, p2⟩ := clean_parts r.clean l4
  have hlen := r.len
  have key : (if m.ae = 3 then linkP ++ fillF (bytesP m) 8 else fillF (bytesP m) (szA m.ae)) = m.prefix_ := by
    unfold bytesP
    rw [p2]
    by_cases h3 : m.ae = 3
    · have hb := r.link h3
      have h16 := linkB_len hb
      have e8 : baseA m.ae = 8 := by rw [h3]; rfl
      rw [e8] at l2
      rw [if_pos h3, e8, ← h16.2]
      have tl : (m.prefix_.take (leastF m.plen).toNat).length = (leastF m.plen).toNat := by rw [List.length_take]; omega
      have e1 : m.prefix_.take 8 = (m.prefix_.take (leastF m.plen).toNat).take 8 := by rw [List.take_take]; congr 1; omega
      unfold fillF
      rw [e1, ← List.append_assoc]
      show List.take 8 (m.prefix_.take (leastF m.plen).toNat) ++ List.drop 8 (m.prefix_.take (leastF m.plen).toNat) ++ List.replicate ((8 : Int).toNat - (List.drop 8 (m.prefix_.take (leastF m.plen).toNat)).length) 0 = _
      rw [List.take_append_drop, List.length_drop, tl]
      conv => rhs; rw [p1]
      congr 2
      rw [h16.1]
      show 8 - ((leastF m.plen).toNat - 8) = 16 - (leastF m.plen).toNat
      omega
    · have e0 : baseA m.ae = 0 := by
        rcases ae_cases r.ae with h | h | h | h
        · rw [h]; rfl
        · rw [h]; rfl
        · rw [h]; rfl
        · exact absurd h h3
      rw [if_neg h3, e0]
      unfold fillF
      have tl : (m.prefix_.take (leastF m.plen).toNat).length = (leastF m.plen).toNat := by rw [List.length_take]; omega
      show List.drop 0 (m.prefix_.take (leastF m.plen).toNat) ++ List.replicate ((szA m.ae).toNat - (List.drop 0 (m.prefix_.take (leastF m.plen).toNat)).length) 0 = _
      rw [List.drop_zero, tl]
      conv => rhs; rw [p1]
      congr 2
      omega
  unfold wholeF
  rw [key, r.clean]
theorem rest_eq {m : Msg} (r : RouteR m) : greatB m.ae m.plen = false ∧ restN m.ae m.plen 0 = (bytesP m).length := by
  have := r.cut.2
  refine ⟨by unfold greatB; rw [decide_eq_true r.plen]; rfl, ?_⟩
  unfold restN; omega
theorem routeG_back {m : Msg} (r : RouteR m) : routeG (if m.kind = 13 then 10 else 9) (headF m ++ encS m.subs) = (m, true, 0) := by
  obtain ⟨hr, hs⟩ := rightB_split r.subs
  have hg := getS_encS hr hs
  have hbare := r.bare
  obtain ⟨l1, l2, l3, l4, l5, l6⟩ := least_base r.ae r.plen
  obtain ⟨q1, q2⟩ := rest_eq r
  have eqm : ∀ x, bareOf m = some x → x = m := fun x h => by rw [bareB, h] at hbare; exact eqB_true.1 hbare
  have uA : ((u8of m.ae).toNat : Int) = m.ae := by rw [u8of_int, if_pos r.ae.1]; have := r.ae; omega
  have uP : ((u8of m.plen).toNat : Int) = m.plen := by rw [u8of_int, if_pos l4]; omega
  rcases r.kinds with hk | ⟨hk, ha, hq, hh, hi⟩
  · have hx := eqm _ (by unfold bareOf; rw [if_neg (by omega), if_neg (by omega), if_neg (by omega), if_neg (by omega), if_neg (by omega), if_neg (by omega), if_neg (by omega), if_neg (by omega), if_neg (by omega), if_neg (by omega), if_neg (by omega), if_pos hk])
    have eh : headF m = u8of m.ae :: u8of m.plen :: bytesP m := by unfold headF; rw [if_neg (by omega)]
    rw [if_neg (show ¬ m.kind = 13 by omega), eh]
    generalize hD : (u8of m.ae :: u8of m.plen :: bytesP m) ++ encS m.subs = D
    have hlen : D.length = 2 + (bytesP m).length + (encS m.subs).length := by rw [← hD]; simp; omega
    have t0 : bt D 0 = m.ae := by rw [← hD]; exact uA
    have t1 : bt D 1 = m.plen := by rw [← hD]; exact uP
    have hp : preF D 2 m.ae m.plen 0 = (bytesP m, 0) := by
      rw [preF_fine q1 (by omega) (by omega), q2]
      have : cut_ D 2 ((bytesP m).length : Int) = bytesP m := by
        rw [← hD]
        show cut_ ([u8of m.ae, u8of m.plen] ++ (bytesP m ++ encS m.subs)) 2 _ = _
        rw [cutR (k := 2) rfl (by omega) (by omega)]
        exact cutL rfl
      rw [this]
    have hdr : D.drop (2 + restN m.ae m.plen 0).toNat = encS m.subs := by
      rw [← hD, q2]
      exact List.drop_left' (by simp; omega)
    unfold routeG
    rw [if_neg (show ¬ (9 : Int) = 10 by decide), if_neg (by omega), t0, t1, if_neg (by have := r.ae; omega)]
    dsimp only
    rw [hp, hdr, hg]
    dsimp only
    rw [if_neg (show ¬ (0 : Int) ≠ 0 by decide), if_neg (show ¬ ((0 : Int) ≠ 0 ∨ true = false) by decide), if_neg (show ¬ (9 : Int) = 10 by decide), wholeF_back r]
    rw [hk] at hx
    rw [hx]
  · have hx := eqm _ (by unfold bareOf; rw [if_neg (by omega), if_neg (by omega), if_neg (by omega), if_neg (by omega), if_neg (by omega), if_neg (by omega), if_neg (by omega), if_neg (by omega), if_neg (by omega), if_neg (by omega), if_neg (by omega), if_neg (by omega), if_pos hk])
    have uH : ((u8of m.hops).toNat : Int) = m.hops := by rw [u8of_int, if_pos (by omega)]; omega
    have eh : headF m = u8of m.ae :: u8of m.plen :: (be 2 m.seq ++ (u8of m.hops :: 0 :: (m.id ++ bytesP m))) := by unfold headF; rw [if_pos hk]
    rw [if_pos hk, eh]
    generalize hD : (u8of m.ae :: u8of m.plen :: (be 2 m.seq ++ (u8of m.hops :: 0 :: (m.id ++ bytesP m)))) ++ encS m.subs = D
    have hlen : D.length = 14 + (bytesP m).length + (encS m.subs).length := by rw [← hD]; simp [be_length]; omega
    have t0 : bt D 0 = m.ae := by rw [← hD]; exact uA
    have t1 : bt D 1 = m.plen := by rw [← hD]; exact uP
    have t4 : bt D 4 = m.hops := by rw [← hD]; exact uH
    have e6 : D = [u8of m.ae, u8of m.plen] ++ (be 2 m.seq ++ ([u8of m.hops, 0] ++ (m.id ++ (bytesP m ++ encS m.subs)))) := by rw [← hD]; simp
    have cs : cut_ D 2 2 = be 2 m.seq := by
      rw [e6, cutR (k := 2) rfl (by omega) (by omega)]; exact cutL rfl
    have ci : cut_ D 6 8 = m.id := by
      rw [e6, cutR (k := 2) rfl (by omega) (by omega), cutR (k := 2) rfl (by omega) (by omega), cutR (k := 2) rfl (by omega) (by omega)]; exact cutL (by omega)
    have hp : preF D 14 m.ae m.plen 0 = (bytesP m, 0) := by
      rw [preF_fine q1 (by omega) (by omega), q2]
      have : cut_ D 14 ((bytesP m).length : Int) = bytesP m := by
        rw [e6, cutR (k := 2) rfl (by omega) (by omega), cutR (k := 2) rfl (by omega) (by omega), cutR (k := 2) rfl (by omega) (by omega), cutR (k := 8) hi (by omega) (by omega)]; exact cutL rfl
      rw [this]
    have hdr : D.drop (14 + restN m.ae m.plen 0).toNat = encS m.subs := by
      rw [← hD, q2]
      exact List.drop_left' (by simp [be_length]; omega)
    unfold routeG
    rw [if_pos (show (10 : Int) = 10 from rfl), if_neg (by omega), t0, t1, t4, if_neg (by have := r.ae; omega)]
    dsimp only
    rw [hp, hdr, hg, cs, ci, num_be2 hq]
    dsimp only
    rw [if_neg (show ¬ (0 : Int) ≠ 0 by decide), if_neg (show ¬ ((0 : Int) ≠ 0 ∨ true = false) by decide), if_pos (show (10 : Int) = 10 from rfl), if_neg (show ¬ (m.ae = 0 ∨ m.hops = 0) by omega), wholeF_back r]
    rw [hk] at hx
    rw [hx]
theorem headF_small {m : Msg} (r : RouteR m) : (headF m).length ≤ 30 := by
  obtain ⟨l1, l2, l3, l4, l5, l6⟩ := least_base r.ae r.plen
  have := r.cut.2
  unfold headF
  rcases r.kinds with hk | ⟨hk, _, _, _, hi⟩
  · rw [if_neg (by omega)]; simp only [List.length_cons]; omega
  · rw [if_pos hk]; simp only [List.length_cons, List.length_append, be_length]; omega
theorem routePut_ok {m : Msg} (r : RouteR m) : routePut m = (u8of (if m.kind = 13 then 10 else 9) :: u8of (headF m ++ encS m.subs).length :: (headF m ++ encS m.subs), true) ∧ (headF m ++ encS m.subs).length ≤ 255 := by
  have h1 := headF_small r
  have h2 := encS_small r.subs
  have hl : (headF m ++ encS m.subs).length ≤ 255 := by simp only [List.length_append]; omega
  refine ⟨?_, hl⟩
  unfold routePut
  have ht : 1 ≤ (if m.kind = 13 then (10 : Int) else 9) ∧ (if m.kind = 13 then (10 : Int) else 9) ≤ 255 := by split <;> omega
  rw [if_pos (routeR_iff.2 r), tput, if_pos ⟨ht.1, ht.2, hl⟩]
end Go.VP
set_option linter.unusedVariables false
set_option linter.unusedSimpArgs false
set_option maxRecDepth 100000
namespace Go.VP
open Go Go.VI
abbrev Ctx := S_api_Ctx
abbrev stp (c : Ctx) : S_ctx_stepper := ⟨c.prefix_c0, c.prefix_c1, c.prefix_c2, c.prefix_c3, c.next_c0, c.next_c1, c.id⟩
def famE (ae : Int) : Int := if ae = 1 then 0 else if ae = 2 then 1 else if ae = 3 then 1 else -1
theorem cfam_is (ae : Int) : g_ctx_Family (ae, ()) = some ((famE ae, ()), ()) := by
  rw [g_ctx_Family_eq]; unfold famE
  by_cases h1 : ae = 1
  · rw [if_pos (by simp [h1]), if_pos h1]
  rw [if_neg (by simp [h1]), if_neg h1]
  by_cases h2 : ae = 2
  · rw [if_pos (by simp [h2]), if_pos (by simp [h2]), if_pos h2]
  rw [if_neg (by simp [h2]), if_neg h2]
  by_cases h3 : ae = 3
  · rw [if_pos (by simp [h3]), if_pos h3]
  · rw [if_neg (by simp [h3]), if_neg h3]
theorem famE_rng {ae : Int} (h : 1 ≤ ae ∧ ae ≤ 3) : 0 ≤ famE ae ∧ famE ae < 2 := by
  unfold famE; split
  · omega
  split
  · omega
  split <;> omega
theorem getS_known {s : Bs} (h : (getS s).2.1 = true) : (getS s).2.2 = 0 := by
  unfold getS at h ⊢
  split at h
  · rename_i l e
    unfold endS at h ⊢
    split at h
    · cases h
    · rename_i h0; rw [if_neg h0]
  · cases h
def countF (d : Bs) (n : Int) : Bool × Int := if (d.length : Int) < n then (false, 2) else ((getS (d.drop n.toNat)).2.1, (getS (d.drop n.toNat)).2.2)
theorem countF_known {d : Bs} {n : Int} (h : (countF d n).1 = true) : (countF d n).2 = 0 ∧ n ≤ d.length := by
  unfold countF at h ⊢
  split at h
  · cases h
  · rename_i h0; rw [if_neg h0]; exact ⟨getS_known h, by omega⟩
theorem counts_is {d : Bs} {n : Int} (hd : d.length ≤ 100000) (hn : 0 ≤ n) : g_ctx_counts (d, n, ()) = some (((countF d n).1, (countF d n).2, ()), ()) := by
  rw [g_ctx_counts_eq]; unfold countF
  by_cases h : (d.length : Int) < n
  · rw [ifd h, if_pos h]
  · rw [ifn h, if_neg h, if_pos (by omega), sget_is (by simp; omega), Option.bind_some]
def setId (c : Ctx) (i : Bs) : Ctx := ⟨c.prefix_c0, c.prefix_c1, c.prefix_c2, c.prefix_c3, c.next_c0, c.next_c1, i⟩
def setN (c : Ctx) (k : Int) (a : Bs) : Ctx := ⟨c.prefix_c0, c.prefix_c1, c.prefix_c2, c.prefix_c3, (if k = 0 then a else c.next_c0), (if k = 1 then a else c.next_c1), c.id⟩
def idF (c : Ctx) (d : Bs) : Ctx × Int := if (countF d 10).1 = true then (setId c (cut_ d 2 8), 0) else (c, (countF d 10).2)
theorem id_is {c : Ctx} {d : Bs} (hd : d.length ≤ 100000) : g_ctx_stepper_id (stp c, d, ()) = some (((idF c d).2, ()), (stp (idF c d).1, ())) := by
  rw [g_ctx_stepper_id_eq, counts_is hd (by omega), Option.bind_some]
  unfold idF
  dsimp only
  cases h : (countF d 10).1 with
  | false => rw [iff_, if_neg (by simp)]
  | true =>
    have hk := countF_known h
    rw [ift, if_pos (by omega), if_pos rfl, hk.1]; rfl
def hopN (ae : Int) : Int := if ae = 0 then (0 : Int) else (if ae = 1 then (4 : Int) else (if ae = 2 then (16 : Int) else (8 : Int)))
theorem hopN_rng (ae : Int) : 0 ≤ hopN ae ∧ hopN ae ≤ 16 := by
  unfold hopN; split
  · omega
  split
  · omega
  split <;> omega
def hopA (d : Bs) : Bs := if bt d 0 = 3 then (longF (cut_ d 2 (hopN (bt d 0)))).1 else cut_ d 2 (hopN (bt d 0))
def hopF (c : Ctx) (d : Bs) : Ctx × Int :=
  if (d.length : Int) < 2 then (c, 2) else if bt d 0 < 1 ∨ 3 < bt d 0 then (c, 0)
  else if (countF d (2 + hopN (bt d 0))).1 = true then (setN c (famE (bt d 0)) (hopA d), 0)
  else (c, (countF d (2 + hopN (bt d 0))).2)
theorem hop_is {c : Ctx} {d : Bs} (hd : d.length ≤ 100000) : g_ctx_stepper_hop (stp c, d, ()) = some (((hopF c d).2, ()), (stp (hopF c d).1, ())) := by
  rw [g_ctx_stepper_hop_eq]
  unfold hopF
  by_cases h2 : (d.length : Int) < 2
  · rw [ifd h2, if_pos h2]
  rw [ifn h2, if_neg h2, get_bt (i := 0) (by omega), Option.bind_some, w64n]
  have e0 : bt d 0 = (((d[0]?.getD 0).toNat : Nat) : Int) := rfl
  rw [← e0]
  unfold hopA
  generalize bt d 0 = v
  by_cases h0 : v < 1
  · rw [ifd h0, if_pos (.inl h0)]
  rw [ifn h0]
  by_cases h3 : 3 < v
  · rw [ifd h3, if_pos (.inr h3)]
  have hr := hopN_rng v
  have hh : (if v = 0 then (0 : Int) else (if v = 1 then (4 : Int) else (if v = 2 then (16 : Int) else (8 : Int)))) = hopN v := rfl
  rw [hh, ifn h3, if_neg (show ¬ (v < 1 ∨ 3 < v) by omega), if_pos (show 0 ≤ v ∧ v < 4 by omega), w64 (x := 2 + hopN v) (by omega) (by omega), counts_is hd (by omega), Option.bind_some]
  dsimp only
  cases h : (countF d (2 + hopN v)).1 with
  | false => rw [ifnf, if_neg (by simp)]
  | true =>
    have hk := countF_known h
    have hf := famE_rng (ae := v) (by omega)
    have hc : (List.take (2 + hopN v).toNat d).drop 2 = cut_ d 2 (hopN v) := rfl
    rw [ifnt, if_pos (show 0 ≤ (2 : Int) ∧ (2 : Int) ≤ 2 + hopN v ∧ 2 + hopN v ≤ (d.length : Int) by omega), if_pos rfl, hc]
    refine bq_step (fun hv => ?_) (fun hv => ?_)
    · rw [long_is, Option.bind_some, cfam_is, Option.bind_some]
      dsimp only
      rw [if_pos hf, if_pos hv]; rfl
    · rw [cfam_is, Option.bind_some]
      dsimp only
      rw [if_pos hf, if_neg hv]; rfl
end Go.VP
set_option linter.unusedVariables false
set_option linter.unusedSimpArgs false
set_option maxRecDepth 100000
namespace Go.VP
open Go Go.VI
theorem dq_step' {R : Type} {p : Prop} [Decidable p] {t f r : R} (h : p → t = r) (h' : ¬ p → f = r) : (if decide p = true then t else f) = r := by
  by_cases hp : p
  · rw [ifd hp]; exact h hp
  · rw [ifn hp]; exact h' hp
theorem be_step {R : Type} {x y : Bs} {f t r : R} (heq : x = y → t = r) (hne : x ≠ y → f = r) : (if (x == y) = true then t else f) = r := by
  by_cases h : x = y
  · rw [if_pos (by simp [h])]; exact heq h
  · rw [if_neg (by simpa using h)]; exact hne h
def okC (c : Ctx) : Prop := c.prefix_c0 = [] ∧ (c.prefix_c1 = [] ∨ c.prefix_c1.length = 4) ∧ (c.prefix_c2 = [] ∨ c.prefix_c2.length = 16) ∧ (c.prefix_c3 = [] ∨ linkB c.prefix_c3 = true) ∧ (c.next_c0 = [] ∨ c.next_c0.length = 4) ∧ (c.next_c1 = [] ∨ c.next_c1.length = 16) ∧ (c.id = [] ∨ c.id.length = 8)
structure RawOk (r : Raw) : Prop where
  ae : 0 ≤ r.ae ∧ r.ae < 4
  om : 0 ≤ r.omitted
  plen : 0 ≤ r.plen ∧ r.plen ≤ 128
  len : r.omitted + r.bytes.length ≤ szA r.ae - baseA r.ae
  flags : 0 ≤ r.flags ∧ r.flags ≤ 255
  metric : 0 ≤ r.metric ∧ r.metric ≤ 65535
  have_ : r.have_ = 0 ∨ r.have_ = 1
  low : lowA r.ae ≤ r.plen
def preC (c : Ctx) (ae : Int) : Bs := if ae = 0 then c.prefix_c0 else (if ae = 1 then c.prefix_c1 else (if ae = 2 then c.prefix_c2 else c.prefix_c3))
theorem preC_len {c : Ctx} (h : okC c) {ae : Int} (ha : 0 ≤ ae ∧ ae < 4) (hn : preC c ae ≠ []) : ((preC c ae).length : Int) = szA ae := by
  obtain ⟨h0, h1, h2, h3, _⟩ := h
  rcases ae_cases ha with rfl | rfl | rfl | rfl
  · exact absurd h0 hn
  · rcases h1 with e | e
    · exact absurd e hn
    · show (c.prefix_c1.length : Int) = 4; omega
  · rcases h2 with e | e
    · exact absurd e hn
    · show (c.prefix_c2.length : Int) = 16; omega
  · rcases h3 with e | e
    · exact absurd e hn
    · have := (linkB_len e).1; show (c.prefix_c3.length : Int) = 16; omega
def addrF (c : Ctx) (r : Raw) : Bs × Bool :=
  if r.omitted = 0 then (wholeF r.ae r.bytes r.plen, true)
  else if preC c r.ae = [] then ([], false)
  else (wholeF r.ae (cut_ (preC c r.ae) (baseA r.ae) r.omitted ++ r.bytes) r.plen, true)
theorem address_is {c : Ctx} {r : Raw} (hc : okC c) (hr : RawOk r) : g_ctx_stepper_address (stp c, r, ()) = some (((addrF c r).1, (addrF c r).2, ()), (stp c, ())) := by
  have ha := hr.ae; have hl := hr.len; have ho := hr.om; have hp := hr.plen
  have hsz : 0 ≤ szA r.ae ∧ szA r.ae ≤ 16 := by unfold szA; split <;> (try split) <;> (try split) <;> omega
  have hbs := baseA_rng r.ae
  have hpre : (if r.ae = 0 then c.prefix_c0 else (if r.ae = 1 then c.prefix_c1 else (if r.ae = 2 then c.prefix_c2 else c.prefix_c3))) = preC c r.ae := rfl
  have hsz' : (if r.ae = 0 then (0 : Int) else (if r.ae = 1 then (4 : Int) else (if r.ae = 2 then (16 : Int) else (16 : Int)))) = szA r.ae := rfl
  rw [g_ctx_stepper_address_eq]
  dsimp only
  rw [hpre, hsz', if_pos ha]
  unfold addrF
  refine bq_step (fun h3 => ?_) (fun h3 => ?_)
  · have s3 : szA r.ae = 16 := by rw [h3]; rfl
    have b3 : baseA r.ae = 8 := by rw [h3]; rfl
    rw [if_pos ha, s3, w64 (x := 16 - 8) (by omega) (by omega), show (16 : Int) - 8 = 8 by decide]
    refine bq_step (fun h0 => ?_) (fun h0 => ?_)
    · rw [if_pos h0, if_pos (maxB_of (by omega)), List.nil_append, fill_is (by omega), Option.bind_some, long_is, Option.bind_some]
      have hl8 : longF (fillF r.bytes 8) = (linkP ++ fillF r.bytes 8, true) := by unfold longF; rw [if_pos (by rw [fillF_length]; omega)]
      rw [hl8, keep_is (by simp [fillF_length, linkP]; omega) (has64.2 (by omega)), Option.bind_some]
      unfold wholeF; rw [if_pos h3]
    · rw [if_neg h0]
      refine be_step (fun he => ?_) (fun he => ?_)
      · rw [if_pos he]
      · have hpl := preC_len hc ha he
        have hcl : ((cut_ (preC c r.ae) 8 r.omitted).length : Int) = r.omitted := cut_length (by omega) ho (by omega)
        have hcut : (List.take (8 + r.omitted).toNat (preC c r.ae)).drop 8 = cut_ (preC c r.ae) 8 r.omitted := rfl
        rw [if_neg he, w64 (x := 8 + r.omitted) (by omega) (by omega), if_pos (by omega), hcut, if_pos (maxB_of (by omega)), fill_is (by omega), Option.bind_some, long_is, Option.bind_some]
        have hl8 : longF (fillF (cut_ (preC c r.ae) 8 r.omitted ++ r.bytes) 8) = (linkP ++ fillF (cut_ (preC c r.ae) 8 r.omitted ++ r.bytes) 8, true) := by unfold longF; rw [if_pos (by rw [fillF_length, List.length_append]; omega)]
        rw [hl8, keep_is (by simp [fillF_length, linkP]; omega) (has64.2 (by omega)), Option.bind_some]
        unfold wholeF; rw [if_pos h3, b3]
  · have b0 : baseA r.ae = 0 := by
      rcases ae_cases ha with h | h | h | h
      · rw [h]; rfl
      · rw [h]; rfl
      · rw [h]; rfl
      · exact absurd h h3
    rw [if_pos ha, w64 (x := szA r.ae - 0) (by omega) (by omega), show szA r.ae - 0 = szA r.ae by omega]
    refine bq_step (fun h0 => ?_) (fun h0 => ?_)
    · rw [if_pos h0, if_pos (maxB_of (by omega)), List.nil_append, fill_is (by omega), Option.bind_some, keep_is (by rw [fillF_length]; omega) (has64.2 (by omega)), Option.bind_some]
      unfold wholeF; rw [if_neg h3]
    · rw [if_neg h0]
      refine be_step (fun he => ?_) (fun he => ?_)
      · rw [if_pos he]
      · have hpl := preC_len hc ha he
        have hcl : ((cut_ (preC c r.ae) 0 r.omitted).length : Int) = r.omitted := cut_length (by omega) ho (by omega)
        have hcut : (List.take (0 + r.omitted).toNat (preC c r.ae)).drop 0 = cut_ (preC c r.ae) 0 r.omitted := rfl
        rw [if_neg he, w64 (x := 0 + r.omitted) (by omega) (by omega), if_pos (by omega), hcut, if_pos (maxB_of (by omega)), fill_is (by omega), Option.bind_some, keep_is (by rw [fillF_length, List.length_append]; omega) (has64.2 (by omega)), Option.bind_some]
        unfold wholeF; rw [if_neg h3, b0]
def flagsF (c : Ctx) (r : Raw) (a : Bs) : Ctx :=
  if r.ae = 0 then c else
    let i := if r.flags / 64 % 2 = 1 then (z4' ++ a).drop (a.length - 4) else c.id
    if 128 ≤ r.flags then ⟨(if r.ae = 0 then a else c.prefix_c0), (if r.ae = 1 then a else c.prefix_c1), (if r.ae = 2 then a else c.prefix_c2), (if r.ae = 3 then a else c.prefix_c3), c.next_c0, c.next_c1, i⟩ else setId c i
  where z4' : Bs := [0, 0, 0, 0]
theorem flag_bits : ∀ f : Fin 256, ((ibits .and .i64 (f.val : Int) 128 != 0) = decide (128 ≤ f.val)) ∧ ((ibits .and .i64 (f.val : Int) 64 != 0) = decide (f.val / 64 % 2 = 1)) := by decide +kernel
def toldB (c : Ctx) (r : Raw) : Bool := decide (r.have_ = 1) && (decide (r.metric = 65535) || (decide (0 < r.ae) && !(c.id == [])))
theorem told_is {c : Ctx} {r : Raw} : g_ctx_stepper_told (stp c, r, ()) = some ((toldB c r, ()), (stp c, ())) := by
  rw [g_ctx_stepper_told_eq]; unfold toldB
  refine bq_step (fun h => ?_) (fun h => ?_)
  · refine bq_step (fun h1 => ?_) (fun h1 => ?_)
    · simp [h, h1]
    · refine dq_step' (fun h2 => ?_) (fun h2 => ?_)
      · simp [h, h1, h2]
      · simp [h1, h2]
  · simp [h]
end Go.VP
set_option linter.unusedVariables false
set_option linter.unusedSimpArgs false
set_option maxRecDepth 100000
namespace Go.VP
open Go Go.VI
theorem czeros4 : g_octet_Zeros (4, ()) = some (((([0, 0, 0, 0] : Bs)), ()), ()) := by
  rw [g_octet_Zeros_eq, if_pos (by unfold roomI; decide)]; rfl
theorem flags_is {c : Ctx} {r : Raw} {a : Bs} (hr : RawOk r) (ha : r.ae ≠ 0 → 4 ≤ a.length) (hb : a.length ≤ 100000) : g_ctx_stepper_flags (stp c, r, a, ()) = some ((), (stp (flagsF c r a), ())) := by
  have hae := hr.ae
  obtain ⟨f, hf⟩ : ∃ f : Fin 256, r.flags = (f.val : Int) := ⟨⟨r.flags.toNat, by have := hr.flags; omega⟩, by have := hr.flags; simp; omega⟩
  obtain ⟨f1, f2⟩ := flag_bits f
  rw [g_ctx_stepper_flags_eq]
  unfold flagsF
  refine bq_step (fun h => ?_) (fun h => ?_)
  · rw [if_pos h]
  have h4 := ha h
  rw [if_neg h, if_neg h, hf, f1, f2, if_pos hae, czeros4, Option.bind_some]
  dsimp only
  have hl : ((([0, 0, 0, 0] : Bs) ++ a).length : Int) - 8 = ((a.length - 4 : Nat) : Int) := by simp; omega
  rw [if_pos (maxB_of (by simp; omega)), hl, w64 (by omega) (by omega), if_pos (show 0 ≤ ((a.length - 4 : Nat) : Int) ∧ ((a.length - 4 : Nat) : Int) ≤ ((([0, 0, 0, 0] : Bs) ++ a).length : Int) by simp; omega), Int.toNat_natCast]
  have e1 : (128 ≤ (f.val : Int)) ↔ 128 ≤ f.val := by omega
  have e2 : ((f.val : Int) / 64 % 2 = 1) ↔ f.val / 64 % 2 = 1 := by omega
  refine dq_step' (fun g => ?_) (fun g => ?_)
  · refine dq_step' (fun k => ?_) (fun k => ?_)
    · rw [if_pos (e2.2 k), if_pos (e1.2 g)]; rfl
    · rw [if_neg (fun x => k (e2.1 x)), if_pos (e1.2 g)]
  · refine dq_step' (fun k => ?_) (fun k => ?_)
    · rw [Option.bind_some]
      dsimp only
      rw [if_pos (maxB_of (by simp; omega)), hl, w64 (by omega) (by omega), if_pos (show 0 ≤ ((a.length - 4 : Nat) : Int) ∧ ((a.length - 4 : Nat) : Int) ≤ ((([0, 0, 0, 0] : Bs) ++ a).length : Int) by simp; omega), Int.toNat_natCast, if_pos (e2.2 k), if_neg (fun x => g (e1.1 x))]; rfl
    · rw [if_neg (fun x => k (e2.1 x)), if_neg (fun x => g (e1.1 x))]; rfl
theorem takeG_raw {d : Bs} (h : (takeG d).2.1 = true) : RawOk (takeG d).1 ∧ (takeG d).2.2 = 0 := by
  have b0 := bt_rng d 0
  have b1 := bt_rng d 1
  have b2 := bt_rng d 2
  have b3 := bt_rng d 3
  unfold takeG at h ⊢
  split at h
  · cases h
  rename_i h1
  split at h
  · cases h
  rename_i h2
  rw [if_neg h1, if_neg h2]
  dsimp only at h ⊢
  split at h
  · cases h
  rename_i h3
  split at h
  · cases h
  rename_i h4
  rw [if_neg h3, if_neg h4]
  have h3 : (preF d 10 (bt d 0) (bt d 2) (bt d 3)).2 = 0 := by simpa using h3
  have n8 := num_rng (cut_ d 8 2)
  have l8 : ((cut_ d 8 2).length : Int) = 2 := cut_length (by omega) (by omega) (by omega)
  have l8' : (cut_ d 8 2).length = 2 := by omega
  rw [l8'] at n8
  unfold preF at h3 ⊢
  split at h3
  · cases h3
  rename_i hg
  split at h3
  · cases h3
  rename_i hl
  rw [if_neg hg, if_neg hl]
  have hg1 : greatB (bt d 0) (bt d 2) = false := by
    cases e : greatB (bt d 0) (bt d 2) with
    | false => rfl
    | true => exact absurd (.inl e) hg
  have hg2 : 0 ≤ restN (bt d 0) (bt d 2) (bt d 3) := by omega
  obtain ⟨q1, q2, q3, q4, q5⟩ := restN_len (ae := bt d 0) (by omega) hg1
  have hcl := cut_length (s := d) (p := 10) (n := restN (bt d 0) (bt d 2) (bt d 3)) (by omega) hg2 (by omega)
  have hp : lowA (bt d 0) ≤ bt d 2 ∧ bt d 2 ≤ highA (bt d 0) := by unfold greatB at hg1; simpa using hg1
  obtain ⟨r1, r2, r3, r4, r5, r6⟩ := least_base (ae := bt d 0) (by omega) hp
  refine ⟨⟨by show 0 ≤ bt d 0 ∧ bt d 0 < 4; omega, b3.1, q5, ?_, by show 0 ≤ bt d 1 ∧ bt d 1 ≤ 255; omega, by show 0 ≤ num (cut_ d 8 2) ∧ num (cut_ d 8 2) ≤ 65535; omega, ?_, hp.1⟩, rfl⟩
  · show bt d 3 + ((cut_ d 10 (restN (bt d 0) (bt d 2) (bt d 3))).length : Int) ≤ szA (bt d 0) - baseA (bt d 0)
    rw [hcl]
    unfold restN
    omega
  · show (if _ = true then (1 : Int) else 0) = 0 ∨ (if _ = true then (1 : Int) else 0) = 1
    split
    · exact .inr rfl
    · exact .inl rfl
def updM (c : Ctx) (r : Raw) (a : Bs) : Msg := ⟨11, 0, 0, [], 0, r.ae, a, r.plen, 0, (if r.metric = 65535 then [] else (if famE r.ae = 0 then c.next_c0 else c.next_c1)), r.metric, (if r.metric = 65535 then [] else c.id), r.seq, 0, r.interval, 0, 0, 0, 0, [], [], [], 0, [], r.subs⟩
def updF (c : Ctx) (d : Bs) : Ctx × List Msg × Int :=
  if (takeG d).2.1 = true then
    (if (addrF c (takeG d).1).2 = true then
      (if toldB (flagsF c (takeG d).1 (addrF c (takeG d).1).1) (takeG d).1 = true then (flagsF c (takeG d).1 (addrF c (takeG d).1).1, [updM (flagsF c (takeG d).1 (addrF c (takeG d).1).1) (takeG d).1 (addrF c (takeG d).1).1], 0)
      else (flagsF c (takeG d).1 (addrF c (takeG d).1).1, [], 0))
    else (c, [], 9))
  else (c, [], (takeG d).2.2)
theorem addrF_len {c : Ctx} {r : Raw} (hc : okC c) (hr : RawOk r) (h : (addrF c r).2 = true) : ((addrF c r).1.length : Int) = szA r.ae := by
  have hl := hr.len
  have ho := hr.om
  have hbs := baseA_rng r.ae
  unfold addrF at h ⊢
  by_cases h0 : r.omitted = 0
  · rw [if_pos h0]; exact wholeF_len hr.ae (by omega)
  · rw [if_neg h0] at h ⊢
    by_cases he : preC c r.ae = []
    · rw [if_pos he] at h; cases h
    · rw [if_neg he]
      have hpl := preC_len hc hr.ae he
      have hcl : ((cut_ (preC c r.ae) (baseA r.ae) r.omitted).length : Int) = r.omitted := cut_length (by omega) ho (by omega)
      exact wholeF_len hr.ae (by rw [List.length_append]; omega)
theorem update_is {c : Ctx} {ty at_ : Int} {d : Bs} (hc : okC c) (hd : d.length ≤ 1000) : g_ctx_stepper_update (stp c, ⟨ty, at_, d⟩, ()) = some (((updF c d).2.1, (updF c d).2.2, ()), (stp (updF c d).1, ())) := by
  rw [g_ctx_stepper_update_eq, take_is hd, Option.bind_some]
  unfold updF
  dsimp only [trip]
  cases h : (takeG d).2.1 with
  | false => rw [ifnf, if_neg (by simp)]
  | true =>
    obtain ⟨hr, h0⟩ := takeG_raw h
    generalize (takeG d).1 = r at *
    rw [ifnt, if_pos rfl, address_is hc hr, Option.bind_some]
    dsimp only
    cases h2 : (addrF c r).2 with
    | false => rw [ifnf, if_neg (by simp)]
    | true =>
      have hl := addrF_len hc hr h2
      have hsz : (r.ae ≠ 0 → 4 ≤ szA r.ae) ∧ szA r.ae ≤ 16 := by unfold szA; refine ⟨fun h => ?_, ?_⟩ <;> (split <;> (try split) <;> (try split) <;> omega)
      generalize (addrF c r).1 = a at *
      rw [ifnt, if_pos rfl, flags_is hr (fun h => by have := hsz.1 h; omega) (by omega), Option.bind_some]
      dsimp only
      rw [told_is, Option.bind_some]
      dsimp only
      cases h3 : toldB (flagsF c r a) r with
      | false => rw [ifnf, if_neg (by simp)]
      | true =>
        rw [ifnt, if_pos rfl]
        unfold updM
        refine ne_step (fun hm => ?_) (fun hm => ?_)
        · rw [if_neg hm, if_neg hm, cfam_is, Option.bind_some]
          dsimp only
          have hae : 1 ≤ r.ae ∧ r.ae ≤ 3 := by
            have := hr.ae
            unfold toldB at h3
            simp [hm] at h3
            omega
          rw [if_pos (famE_rng hae)]
        · rw [if_pos hm, if_pos hm]
end Go.VP
set_option linter.unusedVariables false
set_option linter.unusedSimpArgs false
set_option maxRecDepth 100000
namespace Go.VP
open Go Go.VI
theorem updF_eq {c : Ctx} {d : Bs} (h : (takeG d).2.1 = true) (h2 : (addrF c (takeG d).1).2 = true) : updF c d = (flagsF c (takeG d).1 (addrF c (takeG d).1).1, (if toldB (flagsF c (takeG d).1 (addrF c (takeG d).1).1) (takeG d).1 = true then [updM (flagsF c (takeG d).1 (addrF c (takeG d).1).1) (takeG d).1 (addrF c (takeG d).1).1] else []), 0) := by
  unfold updF
  rw [if_pos h, if_pos h2]
  split <;> rfl
def stepC (c : Ctx) (ty : Int) (d : Bs) : Ctx × List Msg × Int :=
  if ty = 6 then ((idF c d).1, [], (idF c d).2) else if ty = 7 then ((hopF c d).1, [], (hopF c d).2) else if ty = 8 then updF c d else (c, [], 0)
theorem cstep_is {c : Ctx} {ty at_ : Int} {d : Bs} (hc : okC c) (hd : d.length ≤ 1000) : g_ctx_Step (c, ⟨ty, at_, d⟩, ()) = some (((stepC c ty d).1, (stepC c ty d).2.1, (stepC c ty d).2.2, ()), ()) := by
  rw [g_ctx_Step_eq]
  unfold stepC
  refine bq_step (fun h => ?_) (fun h => ?_)
  · have := id_is (c := c) (d := d) (by omega)
    unfold stp at this
    dsimp only
    rw [this, if_pos h]; rfl
  rw [if_neg h]
  refine bq_step (fun h => ?_) (fun h => ?_)
  · have := hop_is (c := c) (d := d) (by omega)
    unfold stp at this
    dsimp only
    rw [this, if_pos h]; rfl
  rw [if_neg h]
  refine bq_step (fun h => ?_) (fun h => ?_)
  · have := update_is (c := c) (ty := ty) (at_ := at_) (d := d) hc hd
    unfold stp at this
    rw [this, if_pos h]; rfl
  · rw [if_neg h]
end Go.VP
set_option linter.unusedVariables false
set_option linter.unusedSimpArgs false
set_option maxRecDepth 100000
namespace Go.VP
open Go Go.VI
theorem okC_none : okC ⟨[], [], [], [], [], [], []⟩ := ⟨rfl, .inl rfl, .inl rfl, .inl rfl, .inl rfl, .inl rfl, .inl rfl⟩
theorem okC_id {c : Ctx} {d : Bs} (h : okC c) : okC (idF c d).1 := by
  unfold idF
  cases hk : (countF d 10).1 with
  | false => rw [if_neg (by simp)]; exact h
  | true =>
    have := countF_known hk
    rw [if_pos rfl]
    obtain ⟨h0, h1, h2, h3, h4, h5, h6⟩ := h
    refine ⟨h0, h1, h2, h3, h4, h5, .inr ?_⟩
    have hl := cut_length (s := d) (p := 2) (n := 8) (by omega) (by omega) (by omega)
    show (cut_ d 2 8).length = 8
    omega
theorem okC_hop {c : Ctx} {d : Bs} (h : okC c) : okC (hopF c d).1 := by
  unfold hopF
  split
  · exact h
  split
  · exact h
  rename_i h2 hr
  cases hk : (countF d (2 + hopN (bt d 0))).1 with
  | false => rw [if_neg (by simp)]; exact h
  | true =>
    have hl := countF_known hk
    rw [if_pos rfl]
    obtain ⟨h0, h1, h2, h3, h4, h5, h6⟩ := h
    have hn := hopN_rng (bt d 0)
    have hc := cut_length (s := d) (p := 2) (n := hopN (bt d 0)) (by omega) (by omega) (by omega)
    have hv : bt d 0 = 1 ∨ bt d 0 = 2 ∨ bt d 0 = 3 := by omega
    have hlong : bt d 0 = 3 → (longF (cut_ d 2 (hopN (bt d 0)))).1.length = 16 := fun e => by
      have h8 : hopN (bt d 0) = 8 := by rw [e]; rfl
      rw [h8] at hc ⊢
      unfold longF
      rw [if_pos (by omega), List.length_append]
      show 8 + (cut_ d 2 8).length = 16
      omega
    refine ⟨h0, h1, h2, h3, ?_, ?_, h6⟩
    · show (if famE (bt d 0) = 0 then hopA d else c.next_c0) = [] ∨ (if famE (bt d 0) = 0 then hopA d else c.next_c0).length = 4
      rcases hv with e | e | e
      · rw [if_pos (by rw [e]; rfl)]
        right
        unfold hopA
        rw [if_neg (by omega)]
        have : hopN (bt d 0) = 4 := by rw [e]; rfl
        omega
      · rw [if_neg (by rw [e]; decide)]; exact h4
      · rw [if_neg (by rw [e]; decide)]; exact h4
    · show (if famE (bt d 0) = 1 then hopA d else c.next_c1) = [] ∨ (if famE (bt d 0) = 1 then hopA d else c.next_c1).length = 16
      rcases hv with e | e | e
      · rw [if_neg (by rw [e]; decide)]; exact h5
      · rw [if_pos (by rw [e]; rfl)]
        right
        unfold hopA
        rw [if_neg (by omega)]
        have : hopN (bt d 0) = 16 := by rw [e]; rfl
        omega
      · rw [if_pos (by rw [e]; rfl)]
        right
        unfold hopA
        rw [if_pos e]
        exact hlong e
theorem addrF_link {c : Ctx} {r : Raw} (hc : okC c) (hr : RawOk r) (h : (addrF c r).2 = true) (h3 : r.ae = 3) : linkB (addrF c r).1 = true := by
  have hl := hr.len
  have ho := hr.om
  have hlow := hr.low
  have hbs := baseA_rng r.ae
  have s3 : szA r.ae - baseA r.ae = 8 := by rw [h3]; rfl
  have hp : 64 ≤ r.plen := by rw [h3] at hlow; exact hlow
  unfold addrF at h ⊢
  by_cases h0 : r.omitted = 0
  · rw [if_pos h0, h3]; exact wholeF_link hp (by omega)
  · rw [if_neg h0] at h ⊢
    by_cases he : preC c r.ae = []
    · rw [if_pos he] at h; cases h
    · rw [if_neg he]
      have hpl := preC_len hc hr.ae he
      have hcl : ((cut_ (preC c r.ae) (baseA r.ae) r.omitted).length : Int) = r.omitted := cut_length (by omega) ho (by omega)
      rw [h3] at hcl ⊢
      exact wholeF_link hp (by rw [List.length_append]; omega)
theorem okC_flags {c : Ctx} {r : Raw} {a : Bs} (h : okC c) (hr : RawOk r) (hl : (a.length : Int) = szA r.ae) (h3 : r.ae = 3 → linkB a = true) : okC (flagsF c r a) := by
  unfold flagsF
  split
  · exact h
  rename_i a0
  have hae := hr.ae
  have hid : okC (setId c (if r.flags / 64 % 2 = 1 then (flagsF.z4' ++ a).drop (a.length - 4) else c.id)) ∧ ((if r.flags / 64 % 2 = 1 then (flagsF.z4' ++ a).drop (a.length - 4) else c.id) = [] ∨ (if r.flags / 64 % 2 = 1 then (flagsF.z4' ++ a).drop (a.length - 4) else c.id).length = 8) := by
    have h4 : 4 ≤ a.length := by
      rcases ae_cases hae with e | e | e | e
      · exact absurd e a0
      · rw [e] at hl; have : szA 1 = 4 := rfl; omega
      · rw [e] at hl; have : szA 2 = 16 := rfl; omega
      · rw [e] at hl; have : szA 3 = 16 := rfl; omega
    have h8 : (if r.flags / 64 % 2 = 1 then (flagsF.z4' ++ a).drop (a.length - 4) else c.id) = [] ∨ (if r.flags / 64 % 2 = 1 then (flagsF.z4' ++ a).drop (a.length - 4) else c.id).length = 8 := by
      split
      · right; rw [List.length_drop, List.length_append]; show 4 + a.length - (a.length - 4) = 8; omega
      · exact h.2.2.2.2.2.2
    obtain ⟨h0, h1, h2, h3, h4, h5, h6⟩ := h
    exact ⟨⟨h0, h1, h2, h3, h4, h5, h8⟩, h8⟩
  obtain ⟨h0, h1, h2, h3', h4, h5, h6⟩ := h
  dsimp only
  split
  · refine ⟨?_, ?_, ?_, ?_, h4, h5, hid.2⟩
    · exact h0
    · show (if r.ae = 1 then a else c.prefix_c1) = [] ∨ (if r.ae = 1 then a else c.prefix_c1).length = 4
      split
      · rename_i e; rw [e] at hl; have : szA 1 = 4 := rfl; right; omega
      · exact h1
    · show (if r.ae = 2 then a else c.prefix_c2) = [] ∨ (if r.ae = 2 then a else c.prefix_c2).length = 16
      split
      · rename_i e; rw [e] at hl; have : szA 2 = 16 := rfl; right; omega
      · exact h2
    · show (if r.ae = 3 then a else c.prefix_c3) = [] ∨ linkB (if r.ae = 3 then a else c.prefix_c3) = true
      split
      · rename_i e; exact .inr (h3 e)
      · exact h3'
  · exact hid.1
theorem okC_upd {c : Ctx} {d : Bs} (h : okC c) : okC (updF c d).1 := by
  unfold updF
  split
  · rename_i ht
    obtain ⟨hr, _⟩ := takeG_raw ht
    split
    · rename_i ha
      have := okC_flags h hr (addrF_len h hr ha) (addrF_link h hr ha)
      split <;> exact this
    · exact h
  · exact h
theorem okC_step {c : Ctx} {ty : Int} {d : Bs} (h : okC c) : okC (stepC c ty d).1 := by
  unfold stepC
  split
  · exact okC_id h
  split
  · exact okC_hop h
  split
  · exact okC_upd h
  · exact h
end Go.VP
set_option linter.unusedVariables false
set_option linter.unusedSimpArgs false
set_option maxRecDepth 100000
namespace Go.VP
open Go Go.VI
def opaqueM (ty : Int) (d : Bs) : Msg := ⟨14, 0, 0, [], 0, 0, [], 0, 0, [], 0, [], 0, 0, 0, 0, 0, 0, 0, [], [], [], ty, d, []⟩
def resF (c : Ctx) (x : Msg × Bool × Int) : Ctx × List Msg × Int := if x.2.2 ≠ 0 then (c, [], x.2.2) else if x.2.1 = true then (c, [x.1], 0) else (c, [], 0)
theorem res_is (c : Ctx) (x : Msg × Bool × Int) : (if (x.2.2 != 0) = true then (some ((c, [], x.2.2, ()), ()) : Option ((Ctx × List Msg × Int × Unit) × Unit)) else (if (!x.2.1) = true then some ((c, [], x.2.2, ()), ()) else some ((c, [x.1], 0, ()), ()))) = some (((resF c x).1, (resF c x).2.1, (resF c x).2.2, ()), ()) := by
  obtain ⟨m, k, e⟩ := x
  unfold resF
  dsimp only
  refine ne_step (fun h => by rw [if_pos h]) (fun h => ?_)
  rw [if_neg (show ¬ e ≠ 0 from fun q => q h)]
  cases k with
  | false => rw [ifnf, if_neg (by simp), h]
  | true => rw [ifnt, if_pos rfl]
def oneR (c : Ctx) (ty : Int) (d : Bs) : Ctx × List Msg × Int :=
  if ty = 0 ∨ ty = 1 then (c, [], 0) else if ty = 6 ∨ ty = 7 ∨ ty = 8 then stepC c ty d
  else if 2 ≤ ty ∧ ty ≤ 5 then resF c (fieldG ty d) else if ty = 9 ∨ ty = 10 then resF c (routeG ty d) else (c, [opaqueM ty d], 0)
theorem one_is {c : Ctx} {ty at_ : Int} {d : Bs} (hc : okC c) (hd : d.length ≤ 1000) : g_intake_one (c, ⟨ty, at_, d⟩, ()) = some (((oneR c ty d).1, (oneR c ty d).2.1, (oneR c ty d).2.2, ()), ()) := by
  have hcases : ty = 0 ∨ ty = 1 ∨ ty = 2 ∨ ty = 3 ∨ ty = 4 ∨ ty = 5 ∨ ty = 6 ∨ ty = 7 ∨ ty = 8 ∨ ty = 9 ∨ ty = 10 ∨ (ty ≠ 0 ∧ ty ≠ 1 ∧ ty ≠ 2 ∧ ty ≠ 3 ∧ ty ≠ 4 ∧ ty ≠ 5 ∧ ty ≠ 6 ∧ ty ≠ 7 ∧ ty ≠ 8 ∧ ty ≠ 9 ∧ ty ≠ 10) := by omega
  rw [g_intake_one_eq]
  dsimp only
  rcases hcases with rfl | rfl | rfl | rfl | rfl | rfl | rfl | rfl | rfl | rfl | rfl | ⟨h0, h1, h2, h3, h4, h5, h6, h7, h8, h9, h10⟩
  · rfl
  · rfl
  · simp only [Int.reduceBEq, Bool.false_eq_true, if_false, if_true]
    rw [getF_is hd (by decide), Option.bind_some]
    exact res_is c _
  · simp only [Int.reduceBEq, Bool.false_eq_true, if_false, if_true]
    rw [getF_is hd (by decide), Option.bind_some]
    exact res_is c _
  · simp only [Int.reduceBEq, Bool.false_eq_true, if_false, if_true]
    rw [getF_is hd (by decide), Option.bind_some]
    exact res_is c _
  · simp only [Int.reduceBEq, Bool.false_eq_true, if_false, if_true]
    rw [getF_is hd (by decide), Option.bind_some]
    exact res_is c _
  · simp only [Int.reduceBEq, Bool.false_eq_true, if_false, if_true]
    rw [cstep_is hc hd, Option.bind_some]; rfl
  · simp only [Int.reduceBEq, Bool.false_eq_true, if_false, if_true]
    rw [cstep_is hc hd, Option.bind_some]; rfl
  · simp only [Int.reduceBEq, Bool.false_eq_true, if_false, if_true]
    rw [cstep_is hc hd, Option.bind_some]; rfl
  · simp only [Int.reduceBEq, Bool.false_eq_true, if_false, if_true]
    rw [getR_is hd (by decide), Option.bind_some]
    exact res_is c _
  · simp only [Int.reduceBEq, Bool.false_eq_true, if_false, if_true]
    rw [getR_is hd (by decide), Option.bind_some]
    exact res_is c _
  · have e : ∀ k : Int, ty ≠ k → (ty == k) = false := fun k h => by simpa using h
    simp only [e _ h0, e _ h1, e _ h2, e _ h3, e _ h4, e _ h5, e _ h6, e _ h7, e _ h8, e _ h9, e _ h10, Bool.false_eq_true, if_false]
    unfold oneR
    rw [if_neg (by omega), if_neg (by omega), if_neg (by omega), if_neg (by omega)]; rfl
end Go.VP
set_option linter.unusedVariables false
set_option linter.unusedSimpArgs false
set_option maxRecDepth 100000
namespace Go.VP
open Go Go.VI
theorem resF_cl (c : Ctx) (x : Msg × Bool × Int) : (resF c x).1 = c ∧ (resF c x).2.1.length ≤ 1 := by
  unfold resF; split
  · exact ⟨rfl, by simp⟩
  split <;> exact ⟨rfl, by simp⟩
theorem updF_len (c : Ctx) (d : Bs) : (updF c d).2.1.length ≤ 1 := by
  unfold updF; split
  · split
    · split <;> simp
    · simp
  · simp
theorem okC_one {c : Ctx} {ty : Int} {d : Bs} (h : okC c) : okC (oneR c ty d).1 ∧ (oneR c ty d).2.1.length ≤ 1 := by
  unfold oneR
  split
  · exact ⟨h, by simp⟩
  split
  · refine ⟨okC_step h, ?_⟩
    unfold stepC
    split
    · simp
    split
    · simp
    split
    · exact updF_len c d
    · simp
  split
  · have := resF_cl c (fieldG ty d); exact ⟨by rw [this.1]; exact h, this.2⟩
  split
  · have := resF_cl c (routeG ty d); exact ⟨by rw [this.1]; exact h, this.2⟩
  · exact ⟨h, by simp⟩
def c0 : Ctx := ⟨[], [], [], [], [], [], []⟩
def foldR : Ctx → List Tlv → List Msg → List Msg × Ctx × Int × Int
  | c, [], acc => (acc, c, 0, 0)
  | c, t :: r, acc => if (oneR c t.type_ t.data).2.2 ≠ 0 then ([], c0, t.at_, (oneR c t.type_ t.data).2.2) else foldR (oneR c t.type_ t.data).1 r (acc ++ (oneR c t.type_ t.data).2.1)
theorem msgBo2 : bo_api_Msg ≤ 100000 := Nat.le_of_ble_eq_true (by kernel_rfl)
theorem fold_loop {n : Nat} {l : List Tlv} (hl : l.length ≤ 100000) (hd : ∀ t ∈ l, t.data.length ≤ 1000) : ∀ (k m i : Nat) (c : Ctx) (acc : List Msg), i + k = l.length → k < m → okC c → acc.length ≤ i →
    L_intake_Fold_0 n m l acc c.prefix_c0 c.prefix_c1 c.prefix_c2 c.prefix_c3 c.next_c0 c.next_c1 c.id i = some (((foldR c (l.drop i) acc).1, (foldR c (l.drop i) acc).2.1, (foldR c (l.drop i) acc).2.2.1, (foldR c (l.drop i) acc).2.2.2, ()), ()) := by
  intro k
  induction k with
  | zero =>
    intro m i c acc h hm hc ha
    obtain ⟨m, rfl⟩ : ∃ k, m = k + 1 := ⟨m - 1, by omega⟩
    rw [L_intake_Fold_0_eq, ifn (by omega), List.drop_eq_nil_of_le (by omega)]; rfl
  | succ k ih =>
    intro m i c acc h hm hc ha
    obtain ⟨m, rfl⟩ : ∃ k, m = k + 1 := ⟨m - 1, by omega⟩
    have hi : i < l.length := by omega
    have h1 := one_is (at_ := l[i].at_) (ty := l[i].type_) hc (hd _ (List.getElem_mem hi))
    obtain ⟨o1, o2⟩ := okC_one (ty := l[i].type_) (d := l[i].data) hc
    have := ih m (i + 1) _ (acc ++ (oneR c l[i].type_ l[i].data).2.1) (by omega) (by omega) o1 (by rw [List.length_append]; omega)
    rw [show ((i + 1 : Nat) : Int) = (i : Int) + 1 by omega] at this
    have hp : 0 ≤ (i : Int) := by omega
    have hbo := msgBo2
    rw [L_intake_Fold_0_eq, ifd (by omega), if_pos hp, Int.toNat_natCast, bind_at hi, List.drop_eq_getElem_cons hi, foldR]
    rw [show (S_api_Ctx.mk c.prefix_c0 c.prefix_c1 c.prefix_c2 c.prefix_c3 c.next_c0 c.next_c1 c.id) = c from rfl, h1, Option.bind_some]
    dsimp only
    refine ne_step (fun he => ?_) (fun he => ?_)
    · rw [if_pos hp, bind_at hi, if_pos he]; rfl
    · rw [if_pos (roomB_of (Nat.le_trans (Nat.mul_le_mul (show acc.length + (oneR c l[i].type_ l[i].data).2.1.length ≤ 100001 by omega) hbo) (by decide))), w64 (by omega) (by omega), this, if_neg (fun q => q he)]
theorem okC_c0 : okC c0 := okC_none
theorem fold_is {l : List Tlv} (hl : l.length ≤ 100000) (hd : ∀ t ∈ l, t.data.length ≤ 1000) : g_intake_Fold (l, ()) = some (((foldR c0 l []).1, (foldR c0 l []).2.1, (foldR c0 l []).2.2.1, (foldR c0 l []).2.2.2, ()), ()) := by
  show h_intake_Fold fuel (l, ()) = _
  rw [h_intake_Fold_eq]
  exact fold_loop (n := fuel) hl hd l.length fuel 0 c0 [] (by omega) (fuel_ge (by omega)) okC_c0 (by simp)
end Go.VP
set_option linter.unusedVariables false
set_option linter.unusedSimpArgs false
set_option maxRecDepth 100000
namespace Go.VP
open Go Go.VI
theorem foldR_app : ∀ (a b : List Tlv) (c : Ctx) (acc : List Msg), (foldR c a acc).2.2.2 = 0 → foldR c (a ++ b) acc = foldR (foldR c a acc).2.1 b (foldR c a acc).1
  | [], b, c, acc, _ => rfl
  | t :: r, b, c, acc, h => by
    rw [List.cons_append, foldR, foldR]
    rw [foldR] at h
    by_cases he : (oneR c t.type_ t.data).2.2 ≠ 0
    · rw [if_pos he] at h; exact absurd h he
    · rw [if_neg he] at h ⊢
      rw [if_neg he]
      exact foldR_app r b _ _ h
def Except.app (x : Except Int (List Tlv)) (a : List Tlv) : Except Int (List Tlv) := x.map (a ++ ·)
theorem spl_append : ∀ (a : Bs) (p : Int) (la : List Tlv), spl p a = .ok la → ∀ b, spl p (a ++ b) = (spl (p + a.length) b).map (la ++ ·) := by
  intro a
  induction h : a.length using Nat.strongRecOn generalizing a with
  | ind n ih =>
    intro p la hs b
    subst h
    match a, hs with
    | [], hs =>
      rw [spl_nil] at hs
      cases hs
      rw [List.nil_append, show p + ((([] : Bs).length : Nat) : Int) = p by simp]
      cases spl p b <;> rfl
    | t :: r, hs =>
      by_cases ht : t = 0
      · subst ht
        rw [spl_zero] at hs
        cases hr : spl (p + 1) r with
        | error q => rw [hr] at hs; cases hs
        | ok lr =>
          rw [hr] at hs
          cases hs
          have := ih r.length (by simp) r rfl (p + 1) lr hr b
          rw [List.cons_append, spl_zero, this, show p + 1 + (r.length : Int) = p + ((((0 : UInt8) :: r).length : Nat) : Int) by simp; omega]
          cases spl (p + ((((0 : UInt8) :: r).length : Nat) : Int)) b <;> rfl
      · match r, hs with
        | [], hs => rw [spl_one ht] at hs; cases hs
        | n :: d, hs =>
          by_cases hn : d.length < n.toNat
          · rw [spl_bad ht hn] at hs; cases hs
          · rw [spl_all ht (by omega)] at hs
            cases hr : spl (p + 2 + n.toNat) (d.drop n.toNat) with
            | error q => rw [hr] at hs; cases hs
            | ok lr =>
              rw [hr] at hs
              cases hs
              have := ih (d.drop n.toNat).length (by simp; omega) (d.drop n.toNat) rfl _ lr hr b
              rw [List.cons_append, List.cons_append, spl_all ht (by rw [List.length_append]; omega), List.drop_append_of_le_length (by omega), this, List.take_append_of_le_length (by omega), show p + 2 + (n.toNat : Int) + ((d.drop n.toNat).length : Int) = p + (((t :: n :: d).length : Nat) : Int) by simp; omega]
              cases spl (p + (((t :: n :: d).length : Nat) : Int)) b <;> rfl
end Go.VP
set_option linter.unusedVariables false
set_option linter.unusedSimpArgs false
set_option maxRecDepth 100000
namespace Go.VP
open Go Go.VI
structure UpdR (m : Msg) : Prop where
  kind : m.kind = 11
  bare : bareB m = true
  subs : rightB m.subs = true
  inn : inB m.ae m.prefix_ m.plen = true
  iv : 0 ≤ m.interval ∧ m.interval < 65536
  sq : 0 ≤ m.seq ∧ m.seq < 65536
  me : 0 ≤ m.metric ∧ m.metric < 65536
  far : m.metric = 65535 → m.id = [] ∧ m.next = []
  near : m.metric ≠ 65535 → 0 < m.ae ∧ m.id.length = 8 ∧ (m.next = [] ∨ famF m.next = famE m.ae)
def tailB (m : Msg) : Bool := if m.metric = 65535 then (m.id == [] && m.next == []) else decide (0 < m.ae) && (decide (m.id.length = 8) && (m.next == [] || decide (famF m.next = famE m.ae)))
noncomputable def updB (m : Msg) : Bool := decide (m.kind = 11) && (bareB m && (rightB m.subs && (inB m.ae m.prefix_ m.plen && (fitsB m.interval 2 && (fitsB m.seq 2 && (fitsB m.metric 2 && tailB m))))))
theorem updR_iff {m : Msg} : updB m = true ↔ UpdR m := by
  unfold updB tailB
  simp only [Bool.and_eq_true, decide_eq_true_eq, fitsB2]
  constructor
  · rintro ⟨a, b, c, d, e, f, g, h⟩
    refine ⟨a, b, c, d, e, f, g, fun hm => ?_, fun hm => ?_⟩
    · rw [if_pos hm] at h; simpa using h
    · rw [if_neg hm] at h; simpa using h
  · intro h
    refine ⟨h.1, h.2, h.3, h.4, h.5, h.6, h.7, ?_⟩
    by_cases hm : m.metric = 65535
    · rw [if_pos hm]; simpa using h.far hm
    · rw [if_neg hm]; simpa using h.near hm
def mk12 (ae : Int) (a : Bs) (plen : Int) : Msg := ⟨12, 0, 0, [], 0, ae, a, plen, 0, [], 0, [], 0, 0, 0, 0, 0, 0, 0, [], [], [], 0, [], []⟩
theorem UpdR.asR {m : Msg} (h : UpdR m) : RouteR (mk12 m.ae m.prefix_ m.plen) := by
  obtain ⟨a, b, c, d, e⟩ := inB_iff.1 h.inn
  have hb : bareOf (mk12 m.ae m.prefix_ m.plen) = some (mk12 m.ae m.prefix_ m.plen) := rfl
  exact ⟨by rw [bareB, hb]; exact eqB_refl _, rfl, a, b, c, d, e, rfl⟩
def leadN : Bs → Bs → Nat
  | a :: x, b :: y => if a = b then leadN x y + 1 else 0
  | _, _ => 0
theorem leadN_le : ∀ x y : Bs, leadN x y ≤ x.length ∧ leadN x y ≤ y.length
  | [], y => by simp [leadN]
  | a :: x, [] => by simp [leadN]
  | a :: x, b :: y => by
    have := leadN_le x y
    rw [leadN]; split <;> simp <;> omega
theorem leadN_take : ∀ x y : Bs, x.take (leadN x y) = y.take (leadN x y)
  | [], y => by simp [leadN]
  | a :: x, [] => by simp [leadN]
  | a :: x, b :: y => by
    rw [leadN]; split
    · rename_i h; rw [List.take_succ_cons, List.take_succ_cons, leadN_take x y, h]
    · rfl
def flagU (ae : Int) : Int := if ae = 0 then 0 else 128
def updD (m : Msg) (n : Nat) : Bs := [u8of m.ae, u8of (flagU m.ae), u8of m.plen, u8of n] ++ (be 2 m.interval ++ (be 2 m.seq ++ (be 2 m.metric ++ ((bytesP m).drop n ++ encS m.subs))))
theorem UpdR.pre {m : Msg} (h : UpdR m) : (0 ≤ m.ae ∧ m.ae < 4) ∧ (0 ≤ m.plen ∧ m.plen ≤ 128) ∧ ((bytesP m).length : Int) = leastF m.plen - baseA m.ae ∧ (bytesP m).length ≤ 16 ∧ (0 ≤ baseA m.ae ∧ baseA m.ae ≤ 8) ∧ m.prefix_.length ≤ 16 := by
  have r := h.asR
  have hc : ((bytesP m).length : Int) = leastF m.plen - baseA m.ae := r.cut.2
  obtain ⟨l1, l2, l3, l4, l5, l6⟩ := least_base r.ae r.plen
  have hl : (m.prefix_.length : Int) = szA m.ae := r.len
  have hb := baseA_rng m.ae
  dsimp only [mk12] at l1 l2 l3 l4 l5 l6
  exact ⟨r.ae, ⟨l4, l5⟩, hc, by omega, hb, by omega⟩
theorem updD_len {m : Msg} (h : UpdR m) (n : Nat) : (updD m n).length = 10 + ((bytesP m).length - n) + (encS m.subs).length := by
  unfold updD
  simp [be_length]; omega
theorem takeG_upd {m : Msg} (h : UpdR m) {n : Nat} (hn : n ≤ (bytesP m).length) : takeG (updD m n) = (⟨m.ae, flagU m.ae, m.plen, n, m.interval, m.seq, m.metric, 1, (bytesP m).drop n, m.subs⟩, true, 0) := by
  obtain ⟨hae, hpl, hbl, h16, hbs, _⟩ := h.pre
  obtain ⟨hr, hs⟩ := rightB_split h.subs
  have hg := getS_encS hr hs
  have q1 : greatB m.ae m.plen = false := (rest_eq h.asR).1
  have hlen := updD_len h n
  have uA : ((u8of m.ae).toNat : Int) = m.ae := by rw [u8of_int, if_pos hae.1]; omega
  have uF : ((u8of (flagU m.ae)).toNat : Int) = flagU m.ae := by unfold flagU; split <;> rfl
  have uP : ((u8of m.plen).toNat : Int) = m.plen := by rw [u8of_int, if_pos hpl.1]; omega
  have uN : ((u8of (n : Int)).toNat : Int) = n := by rw [u8of_int, if_pos (by omega)]; omega
  generalize hD : updD m n = D at *
  have e : D = [u8of m.ae, u8of (flagU m.ae), u8of m.plen, u8of n] ++ (be 2 m.interval ++ (be 2 m.seq ++ (be 2 m.metric ++ ((bytesP m).drop n ++ encS m.subs)))) := by rw [← hD]; rfl
  have t0 : bt D 0 = m.ae := by rw [e]; exact uA
  have t1 : bt D 1 = flagU m.ae := by rw [e]; exact uF
  have t2 : bt D 2 = m.plen := by rw [e]; exact uP
  have t3 : bt D 3 = n := by rw [e]; exact uN
  have c4 : cut_ D 4 2 = be 2 m.interval := by
    rw [e, cutR (k := 4) rfl (by omega) (by omega)]; exact cutL rfl
  have c6 : cut_ D 6 2 = be 2 m.seq := by
    rw [e, cutR (k := 4) rfl (by omega) (by omega), cutR (k := 2) rfl (by omega) (by omega)]; exact cutL rfl
  have c8 : cut_ D 8 2 = be 2 m.metric := by
    rw [e, cutR (k := 4) rfl (by omega) (by omega), cutR (k := 2) rfl (by omega) (by omega), cutR (k := 2) rfl (by omega) (by omega)]; exact cutL rfl
  have hrn : restN m.ae m.plen n = (((bytesP m).drop n).length : Nat) := by unfold restN; rw [List.length_drop]; omega
  have c10 : cut_ D 10 (((bytesP m).drop n).length : Nat) = (bytesP m).drop n := by
    rw [e, cutR (k := 4) rfl (by omega) (by omega), cutR (k := 2) rfl (by omega) (by omega), cutR (k := 2) rfl (by omega) (by omega), cutR (k := 2) rfl (by omega) (by omega)]; exact cutL rfl
  have hp : preF D 10 m.ae m.plen n = ((bytesP m).drop n, 0) := by
    rw [preF_fine q1 (by omega) (by rw [hrn, List.length_drop]; omega), hrn, c10]
  have hdr : D.drop (10 + restN m.ae m.plen n).toNat = encS m.subs := by
    rw [hrn, e, ← List.append_assoc, ← List.append_assoc, ← List.append_assoc, ← List.append_assoc]
    exact List.drop_left' (by simp [be_length]; omega)
  unfold takeG
  rw [if_neg (by omega), t0, if_neg (by omega)]
  dsimp only
  rw [t2, t3, t1, hp, hdr, hg]
  dsimp only
  rw [if_neg (show ¬ (0 : Int) ≠ 0 by decide), if_neg (show ¬ (0 : Int) ≠ 0 by decide), c4, c6, c8, num_be2 h.iv, num_be2 h.sq, num_be2 h.me, if_pos rfl]
def nextC (c : Ctx) (f : Int) : Bs := if f = 0 then c.next_c0 else c.next_c1
def setP (c : Ctx) (ae : Int) (a : Bs) : Ctx := if ae = 0 then c else ⟨c.prefix_c0, (if ae = 1 then a else c.prefix_c1), (if ae = 2 then a else c.prefix_c2), (if ae = 3 then a else c.prefix_c3), c.next_c0, c.next_c1, c.id⟩
theorem setP_id (c : Ctx) (ae : Int) (a : Bs) : (setP c ae a).id = c.id := by unfold setP; split <;> rfl
theorem setP_next (c : Ctx) (ae : Int) (a : Bs) (f : Int) : nextC (setP c ae a) f = nextC c f := by unfold setP; split <;> rfl
theorem bare11 {m : Msg} (hk : m.kind = 11) (hb : bareB m = true) : (⟨11, 0, 0, [], 0, m.ae, m.prefix_, m.plen, 0, m.next, m.metric, m.id, m.seq, 0, m.interval, 0, 0, 0, 0, [], [], [], 0, [], m.subs⟩ : Msg) = m := by
  have hx : bareOf m = some ⟨m.kind, 0, 0, [], 0, m.ae, m.prefix_, m.plen, 0, m.next, m.metric, m.id, m.seq, 0, m.interval, 0, 0, 0, 0, [], [], [], 0, [], m.subs⟩ := by
    unfold bareOf; rw [if_neg (by omega), if_neg (by omega), if_neg (by omega), if_neg (by omega), if_neg (by omega), if_neg (by omega), if_neg (by omega), if_neg (by omega), if_neg (by omega), if_neg (by omega), if_pos hk]
  rw [bareB, hx] at hb
  have := eqB_true.1 hb
  rw [hk] at this
  exact this
theorem updF_upd {c : Ctx} {m : Msg} {n : Nat} (hc : okC c) (h : UpdR m) (hn : n ≤ (bytesP m).length)
    (hk : n ≠ 0 → preC c m.ae ≠ [] ∧ ((preC c m.ae).drop (baseA m.ae).toNat).take n = (bytesP m).take n)
    (hf : m.metric ≠ 65535 → c.id = m.id ∧ nextC c (famE m.ae) = m.next) : updF c (updD m n) = (setP c m.ae m.prefix_, [m], 0) := by
  obtain ⟨hae, hpl, hbl, h16, hbs, _⟩ := h.pre
  have hw : wholeF m.ae (bytesP m) m.plen = m.prefix_ := wholeF_back (m := mk12 m.ae m.prefix_ m.plen) h.asR
  have ht := takeG_upd h hn
  have ha : addrF c (takeG (updD m n)).1 = (m.prefix_, true) := by
    rw [ht]; unfold addrF
    dsimp only
    by_cases h0 : n = 0
    · rw [if_pos (by omega), h0, List.drop_zero, hw]
    · obtain ⟨k1, k2⟩ := hk h0
      have hcut : cut_ (preC c m.ae) (baseA m.ae) (n : Int) = (bytesP m).take n := by
        rw [← k2]; unfold cut_
        rw [List.drop_take, show (baseA m.ae + (n : Int)).toNat - (baseA m.ae).toNat = n by omega]
      rw [if_neg (by omega), if_neg k1, hcut, List.take_append_drop, hw]
  have hfl : flagsF c (takeG (updD m n)).1 m.prefix_ = setP c m.ae m.prefix_ := by
    rw [ht]; unfold flagsF setP flagU
    dsimp only
    by_cases a0 : m.ae = 0
    · rw [if_pos a0, if_pos a0]
    · simp only [if_neg a0]
      rw [if_pos (show (128 : Int) ≤ 128 by decide), if_neg (show ¬ ((128 : Int) / 64 % 2 = 1) by decide)]
  have hto : toldB (setP c m.ae m.prefix_) (takeG (updD m n)).1 = true := by
    rw [ht]; unfold toldB
    dsimp only
    rw [setP_id]
    by_cases hm : m.metric = 65535
    · simp [hm]
    · have hn := h.near hm
      have hi : c.id ≠ [] := by
        rw [(hf hm).1]; intro e; rw [e] at hn; exact absurd hn.2.1 (by decide)
      simp [hi]; omega
  have hu : updM (setP c m.ae m.prefix_) (takeG (updD m n)).1 m.prefix_ = m := by
    rw [ht]; unfold updM
    dsimp only
    have hx := bare11 h.kind h.bare
    by_cases hm : m.metric = 65535
    · obtain ⟨f1, f2⟩ := h.far hm
      rw [if_pos hm, if_pos hm]
      rw [f1, f2] at hx
      exact hx
    · obtain ⟨f1, f2⟩ := hf hm
      rw [if_neg hm, if_neg hm, setP_id, f1]
      have : (if famE m.ae = 0 then (setP c m.ae m.prefix_).next_c0 else (setP c m.ae m.prefix_).next_c1) = m.next := by
        rw [← f2]; exact setP_next c m.ae m.prefix_ (famE m.ae)
      rw [this]
      exact hx
  rw [updF_eq (by rw [ht]) (by rw [ha]), ha, hfl, if_pos hto, hu]
def idD (s : Bs) : Bs := 0 :: 0 :: s
def hopD (a : Bs) : Bs := if linkB a = true then 3 :: 0 :: a.drop 8 else if a.length = 4 then 1 :: 0 :: a else 2 :: 0 :: a
theorem countF_all {d : Bs} {n : Int} (h : (d.length : Int) = n) : countF d n = (true, 0) := by
  unfold countF
  rw [if_neg (by omega), List.drop_eq_nil_of_le (by omega), getS_nil]
theorem idF_back {c : Ctx} {s : Bs} (h : s.length = 8) : idF c (idD s) = (setId c s, 0) := by
  unfold idF idD
  rw [countF_all (by simp [h]), if_pos rfl]
  have : cut_ (0 :: 0 :: s) 2 8 = s := by
    show cut_ ([0, 0] ++ s) 2 8 = s
    rw [cutR (k := 2) rfl (by omega) (by omega)]
    have := cutL (x := s) (y := []) (n := 8) (by omega)
    rwa [List.append_nil] at this
  rw [this]
theorem famF_cases {a : Bs} {f : Int} (hf : famF a = f) (h : f = 0 ∨ f = 1) : (f = 0 ∧ a.length = 4) ∨ (f = 1 ∧ a.length = 16) := by
  unfold famF at hf
  split at hf
  · exact .inl ⟨hf.symm, by assumption⟩
  split at hf
  · exact .inr ⟨hf.symm, by assumption⟩
  · omega
theorem hopF_back {c : Ctx} {a : Bs} {f : Int} (h : (f = 0 ∧ a.length = 4) ∨ (f = 1 ∧ a.length = 16)) : hopF c (hopD a) = (setN c f a, 0) := by
  have ca : ∀ (x y : UInt8) (s : Bs) (n : Int), (s.length : Int) = n → cut_ (x :: y :: s) 2 n = s := fun x y s n hs => by
    show cut_ ([x, y] ++ s) 2 n = s
    rw [cutR (k := 2) rfl (by omega) (by omega)]
    have := cutL (x := s) (y := []) (n := n) hs
    rwa [List.append_nil] at this
  unfold hopD
  by_cases hl : linkB a = true
  · have h16 := linkB_len hl
    have h8 : (a.drop 8).length = 8 := by rw [List.length_drop]; omega
    have b0 : bt (3 :: 0 :: a.drop 8) 0 = 3 := rfl
    have n3 : hopN 3 = 8 := rfl
    have f3 : famE 3 = 1 := rfl
    rw [if_pos hl]
    unfold hopF hopA
    rw [b0, n3, if_neg (by simp; omega), if_neg (by omega), countF_all (by simp [h8]), if_pos rfl, if_pos rfl, ca _ _ _ 8 (by omega), f3]
    have : (longF (a.drop 8)).1 = a := by unfold longF; rw [if_pos h8]; exact link_parts hl
    rw [this]
    rcases h with ⟨rfl, h⟩ | ⟨rfl, h⟩
    · omega
    · rfl
  · rw [if_neg hl]
    rcases h with ⟨rfl, h⟩ | ⟨rfl, h⟩
    · have b0 : bt (1 :: 0 :: a) 0 = 1 := rfl
      have n3 : hopN 1 = 4 := rfl
      have f3 : famE 1 = 0 := rfl
      rw [if_pos h]
      unfold hopF hopA
      rw [b0, n3, if_neg (by simp; omega), if_neg (by omega), countF_all (by simp [h]), if_pos rfl, if_neg (by omega), ca _ _ _ 4 (by omega), f3]
    · have b0 : bt (2 :: 0 :: a) 0 = 2 := rfl
      have n3 : hopN 2 = 16 := rfl
      have f3 : famE 2 = 1 := rfl
      rw [if_neg (by omega)]
      unfold hopF hopA
      rw [b0, n3, if_neg (by simp; omega), if_neg (by omega), countF_all (by simp [h]), if_pos rfl, if_neg (by omega), ca _ _ _ 16 (by omega), f3]
end Go.VP
set_option linter.unusedVariables false
set_option linter.unusedSimpArgs false
set_option maxRecDepth 100000
namespace Go.VP
open Go Go.VI
structure OpqR (m : Msg) : Prop where
  kind : m.kind = 14
  bare : bareB m = true
  ty : 10 < m.type_ ∧ m.type_ < 256
  len : m.data.length < 256
inductive LeanR (m : Msg) : Prop
  | field (h : FieldR m)
  | route (h : RouteR m)
  | upd (h : UpdR m)
  | opq (h : OpqR m)
structure GoodL (m : Msg) : Prop where
  good : GoodM m
  ty : IntKind.has .i64 m.type_
  metric : IntKind.has .i64 m.metric
end Go.VP
set_option linter.unusedVariables false
set_option linter.unusedSimpArgs false
set_option maxRecDepth 100000
namespace Go.VP
open Go Go.VI
def sizeB (b : Bs) : Int := bt b 2 * 256 + bt b 3
def bodyF (b : Bs) : Bs × Int × Int :=
  if 65535 < (b.length : Int) then ([], 65535, 10) else if (b.length : Int) < 4 then ([], b.length, 2)
  else if bt b 0 ≠ 42 then ([], 0, 4) else if bt b 1 ≠ 2 then ([], 1, 4)
  else if (b.length : Int) < 4 + sizeB b then ([], b.length, 2) else (cut_ b 4 (sizeB b), 0, 0)
theorem dq_body {R : Type} {p : Prop} [Decidable p] {t f r : R} (h : p → t = r) (h' : ¬ p → f = r) : (if decide p = true then t else f) = r := by
  by_cases hp : p
  · rw [ifd hp]; exact h hp
  · rw [ifn hp]; exact h' hp
theorem size_is {b : Bs} (h : 4 ≤ b.length) : g_frame_size (b, ()) = some ((sizeB b, ()), ()) := by
  have h2 := bt_rng b 2
  have h3 := bt_rng b 3
  rw [g_frame_size_eq, get_bt (i := 2) (by omega), Option.bind_some, get_bt (i := 3) (by omega), Option.bind_some, w64n, w64n]
  show some ((ibits .or .i64 (ishl .i64 (bt b 2) 8) (bt b 3), ()), ()) = _
  rw [ib_or (by omega) (by omega)]; rfl
theorem sizeB_rng (b : Bs) : 0 ≤ sizeB b ∧ sizeB b ≤ 65535 := by
  have h2 := bt_rng b 2
  have h3 := bt_rng b 3
  unfold sizeB; omega
theorem body_is (b : Bs) : g_frame_Body (b, ()) = some (trip (bodyF b), ()) := by
  have hr := sizeB_rng b
  rw [g_frame_Body_eq]; unfold bodyF
  refine dq_body (fun h => by rw [if_pos h]) (fun h1 => ?_)
  rw [if_neg h1]
  refine dq_body (fun h => by rw [if_pos h]) (fun h2 => ?_)
  rw [if_neg h2, get_bt (i := 0) (by omega), Option.bind_some]
  refine ne_step (fun h => by rw [if_pos (show bt b 0 ≠ 42 from h)]) (fun h3 => ?_)
  rw [if_neg (show ¬ bt b 0 ≠ 42 from fun q => q h3), get_bt (i := 1) (by omega), Option.bind_some]
  refine ne_step (fun h => by rw [if_pos (show bt b 1 ≠ 2 from h)]) (fun h4 => ?_)
  rw [if_neg (show ¬ bt b 1 ≠ 2 from fun q => q h4), size_is (by omega), Option.bind_some]
  dsimp only
  rw [w64 (by omega) (by omega)]
  refine dq_body (fun h => by rw [if_pos h]) (fun h5 => ?_)
  rw [if_neg h5, Option.bind_some]
  dsimp only
  rw [w64 (by omega) (by omega), if_pos (by omega)]; rfl
theorem bodyF_ok {b : Bs} (h : (bodyF b).2.2 = 0) : 4 ≤ b.length ∧ b.length ≤ 65535 ∧ bt b 0 = 42 ∧ bt b 1 = 2 ∧ 4 + sizeB b ≤ b.length ∧ bodyF b = (cut_ b 4 (sizeB b), 0, 0) ∧ ((bodyF b).1.length : Int) = sizeB b := by
  have hr := sizeB_rng b
  unfold bodyF at h ⊢
  split at h
  · cases h
  split at h
  · cases h
  split at h
  · cases h
  split at h
  · cases h
  split at h
  · cases h
  rename_i h1 h2 h3 h4 h5
  rw [if_neg h1, if_neg h2, if_neg h3, if_neg h4, if_neg h5]
  exact ⟨by omega, by omega, by simpa using h3, by simpa using h4, by omega, rfl, cut_length (by omega) (by omega) (by omega)⟩
def behF (b : Bs) : Bs := b.drop (4 + sizeB b).toNat
theorem trailer_is {b : Bs} (h : (bodyF b).2.2 = 0) : g_frame_Trailer (b, ()) = some ((behF b, ()), ()) := by
  have hr := sizeB_rng b
  obtain ⟨h1, h2, _, _, h5, _⟩ := bodyF_ok h
  rw [g_frame_Trailer_eq, size_is h1, Option.bind_some]
  dsimp only
  rw [w64 (by omega) (by omega), if_pos (by omega)]; rfl
def wrapF (s : Bs) : Bs × Bool := if 65531 < (s.length : Int) then ([], false) else (42 :: 2 :: (be 2 s.length ++ s), true)
theorem body_wrap {s t : Bs} (h : s.length ≤ 65531) (ht : t.length + s.length ≤ 65531) : bodyF ((wrapF s).1 ++ t) = (s, 0, 0) ∧ behF ((wrapF s).1 ++ t) = t ∧ (wrapF s).1.length = 4 + s.length ∧ (wrapF s).2 = true := by
  have e : wrapF s = (42 :: 2 :: (be 2 s.length ++ s), true) := by unfold wrapF; rw [if_neg (by omega)]
  rw [e]
  dsimp only
  have hL : ((42 :: 2 :: (be 2 (s.length : Int) ++ s)) : Bs).length = 4 + s.length := by simp [be_length]; omega
  have hb : (42 :: 2 :: (be 2 (s.length : Int) ++ s)) ++ t = ([42, 2] : Bs) ++ (be 2 (s.length : Int) ++ (s ++ t)) := by simp
  have n2 : num (be 2 (s.length : Int)) = s.length := num_be 2 _ (by omega) (by omega)
  generalize hB : (42 :: 2 :: (be 2 (s.length : Int) ++ s)) ++ t = B at *
  have hBl : B.length = 4 + s.length + t.length := by rw [hb]; simp [be_length]; omega
  have b0 : bt B 0 = 42 := by rw [hb]; rfl
  have b1 : bt B 1 = 2 := by rw [hb]; rfl
  have sz : sizeB B = s.length := by
    unfold sizeB
    rw [← num2 (s := B) (p := 2) (by omega)]
    have : cut_ B ((2 : Nat) : Int) 2 = be 2 (s.length : Int) := by
      rw [hb]
      show cut_ (([42, 2] : Bs) ++ (be 2 (s.length : Int) ++ (s ++ t))) 2 2 = _
      unfold cut_
      show List.drop 2 (List.take 4 (([42, 2] : Bs) ++ (be 2 (s.length : Int) ++ (s ++ t)))) = _
      rw [show 4 = ([42, 2] : Bs).length + 2 from rfl, List.take_length_add_append, List.drop_left' (by rfl), List.take_left' (be_length 2 _)]
    rw [this, n2]
  have ct : cut_ B 4 (s.length : Int) = s := by
    unfold cut_
    rw [hb, show ((4 : Int) + (s.length : Int)).toNat = 4 + s.length by omega, show (4 : Int).toNat = 4 from rfl, ← List.append_assoc, ← List.append_assoc, List.take_left' (by simp [be_length]; omega), List.drop_left' (by simp [be_length])]
  refine ⟨?_, ?_, hL, rfl⟩
  · unfold bodyF
    rw [if_neg (by omega), if_neg (by omega), if_neg (by rw [b0]; simp), if_neg (by rw [b1]; simp), sz, if_neg (by omega), ct]
  · unfold behF
    rw [sz, hb, ← List.append_assoc, ← List.append_assoc, List.drop_left' (by simp [be_length]; omega)]
end Go.VP
set_option linter.unusedVariables false
set_option linter.unusedSimpArgs false
set_option maxRecDepth 100000
namespace Go.VP
open Go Go.VI
theorem ishr8w {x : Int} (h : 0 ≤ x) : ishr .i64 x 8 = x / 256 := by
  unfold ishr
  rw [show (2 : Int) ^ (min (8 : Int).toNat IntKind.i64.bits) = 256 by decide]
  exact Int.fdiv_eq_ediv_of_nonneg _ (by decide)
theorem wput_loop {c : Nat} : ∀ (i m : Nat) (x : Int) (acc : Bs), i ≤ acc.length → acc.length ≤ 100 → i < m → 0 ≤ x → L_octet_Put_0 c m x ((i : Int) - 1) acc = some ((be i x ++ acc.drop i, true, ()), ())
  | 0, m, x, acc, h1, h2, hm, hx => by
    obtain ⟨m, rfl⟩ : ∃ k, m = k + 1 := ⟨m - 1, by omega⟩
    rw [L_octet_Put_0_eq, ifn (by omega)]; simp [be]
  | i + 1, m, x, acc, h1, h2, hm, hx => by
    obtain ⟨m, rfl⟩ : ∃ k, m = k + 1 := ⟨m - 1, by omega⟩
    have e : (((i + 1 : Nat) : Int) - 1) = (i : Int) := by omega
    rw [L_octet_Put_0_eq, e, ifd (by omega), if_pos (by omega), Int.toNat_natCast, if_pos (by omega), w64 (by omega) (by omega), ishr8w hx, wput_loop i m (x / 256) _ (by simp; omega) (by simp; omega) (by omega) (by omega), wu8, be]
    have : (acc.set i (u8of (x % 256))).drop i = u8of (x % 256) :: acc.drop (i + 1) := by
      rw [List.drop_eq_getElem_cons (by simp; omega), List.getElem_set_self, List.drop_set_of_lt (by omega)]
    rw [this]; simp
theorem wput_is {n : Int} {k : Nat} (hn : IntKind.has .i64 n) (h1 : 1 ≤ k) (h7 : k ≤ 7) : g_octet_Put (n, (k : Int), ()) = some (((oput n k).1, (oput n k).2, ()), ()) := by
  show h_octet_Put fuel (n, (k : Int), ()) = _
  rw [h_octet_Put_eq, fits_is hn h1 h7, Option.bind_some]
  unfold oput
  cases hf : fitsB n k with
  | false => rfl
  | true =>
    have h0 : 0 ≤ n := by unfold fitsB at hf; rw [decide_eq_true_eq] at hf; exact hf.1
    have hr : (k : Int) ≤ roomI := by unfold roomI; omega
    dsimp only
    rw [ifnt, if_pos ⟨by omega, hr⟩, w64 (by omega) (by omega), Int.toNat_natCast, wput_loop k fuel n _ (by simp) (by simp; omega) (fuel_ge (by omega)) h0]
    simp
theorem wput2 {n : Int} (hn : IntKind.has .i64 n) : g_octet_Put (n, 2, ()) = some (((oput n 2).1, (oput n 2).2, ()), ()) := wput_is (k := 2) hn (by omega) (by omega)
theorem oput_len2 {s : Bs} (h : s.length ≤ 65531) : oput (s.length : Int) 2 = (be 2 s.length, true) := by
  unfold oput; rw [if_pos (by unfold fitsB; rw [decide_eq_true_eq]; omega)]
theorem wrapF_long {s : Bs} (h : 65531 < (s.length : Int)) : wrapF s = ([], false) := by unfold wrapF; rw [if_pos h]
theorem wrapF_fit {s : Bs} (h : ¬ 65531 < (s.length : Int)) : wrapF s = (42 :: 2 :: (be 2 s.length ++ s), true) := by unfold wrapF; rw [if_neg h]
theorem wrap_is {s : Bs} (h : s.length ≤ 100000000) : g_frame_Wrap (s, ()) = some (((wrapF s).1, (wrapF s).2, ()), ()) := by
  rw [g_frame_Wrap_eq, wput2 (has64.2 (by omega)), Option.bind_some]
  by_cases hs : 65531 < (s.length : Int)
  · rw [wrapF_long hs]
    cases hb : (oput (s.length : Int) 2).2 with
    | false => rfl
    | true => dsimp only; rw [ifnt, ifd hs]
  · have h2 : (be 2 (s.length : Int)).length = 2 := be_length 2 _
    rw [wrapF_fit hs, oput_len2 (by omega)]
    generalize be 2 (s.length : Int) = B at *
    dsimp only
    rw [ifnt, ifn hs, if_pos (maxB_of (by omega)), if_pos (maxB_of (by simp; omega))]; rfl
end Go.VP
set_option linter.unusedVariables false
set_option linter.unusedSimpArgs false
set_option maxRecDepth 100000
namespace Go.VP
open Go Go.VI
theorem GoodL.small {m : Msg} (g : GoodL m) : Small m := by
  have := g.good.few.list; have := g.good.few.subs; exact ⟨by omega, by omega⟩
def parseI (b : Bs) : List Msg × Int × Int :=
  if (bodyF b).2.2 ≠ 0 then ([], (bodyF b).2.1, (bodyF b).2.2)
  else match spl 4 (bodyF b).1 with
    | .error q => ([], q, 2)
    | .ok l => match spl (4 + ((bodyF b).1.length : Int)) (behF b) with
      | .error q => ([], q, 2)
      | .ok _ => ((foldR c0 l []).1, (foldR c0 l []).2.2.1, (foldR c0 l []).2.2.2)
theorem parse_core {b : Bs} {B : Option ((Bs × Int × Int × Unit) × Unit)} {S1 S2 : Bs → Int → Option ((List Tlv × Int × Int × Unit) × Unit)} {T : Option ((Bs × Unit) × Unit)} {F : List Tlv → Option ((List Msg × Ctx × Int × Int × Unit) × Unit)}
    (hB : B = some (trip (bodyF b), ())) (hS1 : ∀ s p, s.length ≤ 1000000000 → 0 ≤ p ∧ p ≤ 1152921504606846976 → S1 s p = some (trip (splOut [] (spl p s)), ())) (hS2 : ∀ s p, s.length ≤ 1000000000 → 0 ≤ p ∧ p ≤ 1152921504606846976 → S2 s p = some (trip (splOut [] (spl p s)), ()))
    (hT : (bodyF b).2.2 = 0 → T = some ((behF b, ()), ()))
    (hF : ∀ l : List Tlv, l.length ≤ 100000 → (∀ t ∈ l, t.data.length ≤ 1000) → F l = some (((foldR c0 l []).1, (foldR c0 l []).2.1, (foldR c0 l []).2.2.1, (foldR c0 l []).2.2.2, ()), ())) :
    (B.bind fun r1 => (if (r1.1.2.2.1 != 0) = true then (some (([], r1.1.2.1, r1.1.2.2.1, ()), ()) : Option ((List Msg × Int × Int × Unit) × Unit)) else ((S1 r1.1.1 4).bind fun r2 => (if (r2.1.2.2.1 != 0) = true then some (([], r2.1.2.1, r2.1.2.2.1, ()), ()) else (T.bind fun r3 => ((S2 r3.1.1 (IntKind.wrap .i64 (4 + (r1.1.1.length : Int)))).bind fun r4 => (if (r4.1.2.2.1 != 0) = true then some (([], r4.1.2.1, r4.1.2.2.1, ()), ()) else ((F r2.1.1).bind fun r5 => some ((r5.1.1, r5.1.2.2.1, r5.1.2.2.2.1, ()), ()))))))))) = some (trip (parseI b), ()) := by
  rw [hB, Option.bind_some]
  unfold parseI
  dsimp only [trip]
  refine ne_step (fun h => by rw [if_pos h]) (fun h => ?_)
  obtain ⟨l1, l2, _, _, l5, _, l7⟩ := bodyF_ok h
  have hr := sizeB_rng b
  have hbl : (behF b).length ≤ 100000 := by unfold behF; rw [List.length_drop]; omega
  have hsl : (bodyF b).1.length ≤ 65535 := by omega
  rw [if_neg (show ¬ (bodyF b).2.2 ≠ 0 from fun q => q h), hS1 _ _ (by omega) (by omega), Option.bind_some]
  cases h1 : spl 4 (bodyF b).1 with
  | error q => rfl
  | ok l =>
    have hk := spl_ok _ _ _ h1
    dsimp only [trip, splOut]
    refine ne_step (fun q => absurd rfl q) (fun _ => ?_)
    rw [hT h, Option.bind_some]
    dsimp only
    rw [w64 (by omega) (by omega), hS2 _ _ (by omega) (by omega), Option.bind_some]
    cases h2 : spl (4 + ((bodyF b).1.length : Int)) (behF b) with
    | error q => rfl
    | ok l2 =>
      dsimp only [trip, splOut]
      refine ne_step (fun q => absurd rfl q) (fun _ => ?_)
      rw [List.nil_append, hF l (by omega) (fun t ht => by have := hk.1 t ht; omega)]
      rfl
theorem iparse_is (b : Bs) : g_intake_Parse (b, ()) = some (trip (parseI b), ()) := by
  rw [g_intake_Parse_eq]
  exact parse_core (b := b) (S1 := fun s p => g_frame_Split (s, p, ())) (S2 := fun s p => g_frame_Split (s, p, ())) (F := fun l => g_intake_Fold (l, ())) (body_is b) (fun s p h h2 => split_is h h2) (fun s p h h2 => split_is h h2) (fun h => trailer_is h) (fun l h h2 => fold_is h h2)
end Go.VP
set_option linter.unusedVariables false
set_option linter.unusedSimpArgs false
set_option maxRecDepth 100000
namespace Go.VP
open Go Go.VI
theorem either_is (s : Bs) (g : Bool) : g_ctx_either (s, g, ()) = some ((decide (s = []) || g, ()), ()) := by
  rw [g_ctx_either_eq]
  refine be_step (fun h => by simp [h]) (fun h => by simp [h])
theorem nb_and {R : Type} {b S : Bool} {t : Option R} {f : Bool → Option R} (h : b = true → t = f S) : (if (!b) = true then f false else t) = f (b && S) := by
  cases b with
  | true => rw [ifnt, Bool.true_and]; exact h rfl
  | false => rw [ifnf, Bool.false_and]
theorem fits2 {n : Int} (hn : IntKind.has .i64 n) : g_octet_Fits (n, 2, ()) = some ((fitsB n 2, ()), ()) := fits_is (k := 2) hn (by omega) (by omega)
theorem fewS_of {m : Msg} (g : GoodM m) : FewS m.subs := g.few.fewS
theorem cright_is {m : Msg} (g : GoodL m) : g_ctx_Right (m, ()) = some ((updB m, ()), ()) := by
  have hl := g.good.few
  have := hl.id; have := hl.next; have := hl.pre
  rw [g_ctx_Right_eq]
  unfold updB
  refine ne_step (fun h => by rw [decide_eq_false h, Bool.false_and]) (fun h => ?_)
  rw [decide_eq_true h, Bool.true_and, bare_is, Option.bind_some]
  dsimp only
  refine nb_and (f := fun b => some ((b, ()), ())) (fun _ => ?_)
  rw [sright_is (fewS_of g.good), Option.bind_some]
  refine nb_and (f := fun b => some ((b, ()), ())) (fun _ => ?_)
  rw [in_is (by omega) g.good.plen, Option.bind_some]
  refine nb_and (f := fun b => some ((b, ()), ())) (fun _ => ?_)
  rw [fits2 g.good.interval, Option.bind_some]
  refine nb_and (f := fun b => some ((b, ()), ())) (fun _ => ?_)
  rw [fits2 g.good.seq, Option.bind_some]
  refine nb_and (f := fun b => some ((b, ()), ())) (fun _ => ?_)
  rw [fits2 g.metric, Option.bind_some]
  refine nb_and (f := fun b => some ((b, ()), ())) (fun _ => ?_)
  unfold tailB
  refine bq_step (fun h => ?_) (fun h => ?_)
  · rw [if_pos h, if_pos (maxB_of (by omega))]
    have : (m.id ++ m.next == ([] : Bs)) = (m.id == [] && m.next == []) := by
      rw [Bool.eq_iff_iff]; simp
    rw [this]
  · rw [if_neg h]
    by_cases ha : 0 < m.ae
    · rw [ifd ha, decide_eq_true ha, Bool.true_and, len8]
      cases h8 : decide (m.id.length = 8) with
      | false => rw [iff_, Bool.false_and]
      | true =>
        rw [ift, fam_is, Option.bind_some, cfam_is, Option.bind_some, either_is, Option.bind_some, Bool.true_and]
        have e1 : (m.next == ([] : Bs)) = decide (m.next = []) := by rw [Bool.eq_iff_iff]; simp
        have e2 : (famF m.next == famE m.ae) = decide (famF m.next = famE m.ae) := by rw [Bool.eq_iff_iff]; simp
        rw [e1]
        dsimp only
        rw [e2]
    · rw [ifn ha, decide_eq_false ha, Bool.false_and]
theorem goodL {m : Msg} (g : Good_api_Msg m) (h : Lite m) : GoodL m := by
  obtain ⟨g1, g2, g3, g4, g5, g6, g7, g8, g9, g10, g11, g12, g13, g14, g15, g16, g17, g18, g19, g20, g21, g22, g23, _⟩ := g
  exact ⟨⟨h, g18, g15, g13, g19, g1, g16, g6, g8, g17⟩, g23, g11⟩
end Go.VP
set_option linter.unusedVariables false
set_option linter.unusedSimpArgs false
set_option maxRecDepth 100000
namespace Go.VP
open Go Go.VI
def len8T : List UInt8 := [0] ++ List.replicate 1 1 ++ List.replicate 2 2 ++ List.replicate 4 3 ++ List.replicate 8 4 ++ List.replicate 16 5 ++ List.replicate 32 6 ++ List.replicate 64 7 ++ List.replicate 128 8
theorem len8T_ok : ∀ x : Fin 256, x.val ≠ 0 → ∃ y, len8T[x.val]? = some y ∧ 1 ≤ y.toNat ∧ y.toNat ≤ 8 := by
  have h : ∀ x : Fin 256, x.val ≠ 0 → 1 ≤ (len8T[x.val]?.getD 0).toNat ∧ (len8T[x.val]?.getD 0).toNat ≤ 8 := by decide +kernel
  have hl : len8T.length = 256 := by decide +kernel
  intro x hx
  refine ⟨len8T[x.val]?.getD 0, get_bt (by omega), h x hx⟩
theorem len8_eq (a0 : Int) : g_math_bits_Len8 (a0, ()) = if 0 ≤ a0 then len8T[a0.toNat]?.bind fun (y1 : UInt8) => some (((IntKind.wrap .i64 (y1.toNat : Int)), ()), ()) else none := g_math_bits_Len8_eq a0
theorem lz8_is {n : Nat} (h0 : n ≠ 0) (h : n < 256) : ∃ z : Int, g_math_bits_LeadingZeros8 ((n : Int), ()) = some ((z, ()), ()) ∧ 0 ≤ z ∧ z ≤ 7 := by
  obtain ⟨y, h1, h2, h3⟩ := len8T_ok ⟨n, h⟩ h0
  have h1 : len8T[n]? = some y := h1
  rw [g_math_bits_LeadingZeros8_eq, len8_eq, if_pos (by omega), Int.toNat_natCast, h1, Option.bind_some, Option.bind_some]
  dsimp only
  rw [w64n, w64 (by omega) (by omega)]
  exact ⟨_, rfl, by omega, by omega⟩
theorem xor_ne {a b : UInt8} : (ibits .xor .u8 (a.toNat : Int) (b.toNat : Int) ≠ 0) ↔ a ≠ b := by
  rw [ib8_xor a.toNat_lt b.toNat_lt]
  constructor
  · intro h e; subst e; simp at h
  · intro h e
    have h0 : a.toNat ^^^ b.toNat = 0 := by omega
    exact h (UInt8.toNat.inj (by
      have := congrArg (· ^^^ b.toNat) h0
      simpa [Nat.xor_assoc] using this))
theorem leadN_nil {x y : Bs} (h : x = [] ∨ y = []) : leadN x y = 0 := by
  rcases h with rfl | rfl
  · cases y <;> rfl
  · cases x <;> rfl
theorem alike_loop {a b : Bs} {n : Nat} (ha : a.length ≤ 100000) (hb : b.length ≤ 100000) : ∀ (d m i : Nat), i + d = min a.length b.length → d < m → ∃ A : Int, L_bits_Alike_0 n m a b (if (b.length : Int) < (a.length : Int) then (b.length : Int) else (a.length : Int)) i = some ((A, ()), ()) ∧ A / 8 = i + leadN (a.drop i) (b.drop i) ∧ 0 ≤ A ∧ A ≤ 10000000 := by
  have hmin : (if (b.length : Int) < (a.length : Int) then (b.length : Int) else (a.length : Int)) = ((min a.length b.length : Nat) : Int) := by split <;> omega
  rw [hmin]
  intro d
  induction d with
  | zero =>
    intro m i hd hm
    obtain ⟨m, rfl⟩ : ∃ k, m = k + 1 := ⟨m - 1, by omega⟩
    rw [L_bits_Alike_0_eq, ifn (by omega), hmin, w64 (by omega) (by omega)]
    refine ⟨_, rfl, ?_, by omega, by omega⟩
    rw [leadN_nil (by
      by_cases h : a.length ≤ b.length
      · exact .inl (List.drop_eq_nil_of_le (by omega))
      · exact .inr (List.drop_eq_nil_of_le (by omega)))]
    omega
  | succ d ih =>
    intro m i hd hm
    obtain ⟨m, rfl⟩ : ∃ k, m = k + 1 := ⟨m - 1, by omega⟩
    have hp : 0 ≤ (i : Int) := by omega
    have hi : i < a.length := by omega
    have hib : i < b.length := by omega
    rw [L_bits_Alike_0_eq, ifd (by omega)]
    simp only [if_pos hp, Int.toNat_natCast, List.getElem?_eq_getElem hi, List.getElem?_eq_getElem hib, Option.bind_some]
    rw [List.drop_eq_getElem_cons hi, List.drop_eq_getElem_cons hib, leadN]
    by_cases he : a[i] = b[i]
    · obtain ⟨A, h1, h2, h3, h4⟩ := ih m (i + 1) (by omega) (by omega)
      rw [show ((i + 1 : Nat) : Int) = (i : Int) + 1 by omega] at h1 h2
      have hz : ibits .xor .u8 ((a[i]).toNat : Int) ((b[i]).toNat : Int) = 0 := Classical.byContradiction fun h => xor_ne.1 h he
      rw [if_pos he, hz, if_neg (by decide), w64 (by omega) (by omega)]
      exact ⟨A, h1, by omega, h3, h4⟩
    · have hz := xor_ne.2 he
      rw [if_neg he, if_pos (by simpa using hz)]
      rw [ib8_xor (a[i]).toNat_lt (b[i]).toNat_lt] at hz ⊢
      have hx : (a[i]).toNat ^^^ (b[i]).toNat < 256 := Nat.xor_lt_two_pow (n := 8) (a[i]).toNat_lt (b[i]).toNat_lt
      obtain ⟨z, k1, k2, k3⟩ := lz8_is (n := (a[i]).toNat ^^^ (b[i]).toNat) (by omega) hx
      rw [k1, Option.bind_some]
      dsimp only
      rw [w64 (x := 8 * (i : Int)) (by omega) (by omega), w64 (by omega) (by omega)]
      exact ⟨_, rfl, by omega, by omega, by omega⟩
theorem lead_is {a b : Bs} (ha : a.length ≤ 100000) (hb : b.length ≤ 100000) : g_prefix_Lead (a, b, ()) = some ((((leadN a b : Nat) : Int), ()), ()) := by
  have hA : ∃ A : Int, g_bits_Alike (a, b, ()) = some ((A, ()), ()) ∧ A / 8 = leadN a b ∧ 0 ≤ A := by
    show ∃ A : Int, h_bits_Alike fuel (a, b, ()) = _ ∧ _
    rw [h_bits_Alike_eq]
    obtain ⟨A, h1, h2, h3, _⟩ := alike_loop (n := fuel) ha hb (min a.length b.length) fuel 0 (by omega) (fuel_ge (by omega))
    exact ⟨A, h1, by simpa using h2, h3⟩
  obtain ⟨A, h1, h2, h3⟩ := hA
  rw [g_prefix_Lead_eq, h1, Option.bind_some]
  dsimp only
  rw [ishr3 h3, h2]
end Go.VP
set_option linter.unusedVariables false
set_option linter.unusedSimpArgs false
set_option maxRecDepth 100000
namespace Go.VP
open Go Go.VI
noncomputable def opqB (m : Msg) : Bool := bareB m && (decide (10 < m.type_) && (decide (m.type_ < 256) && decide (m.data.length < 256)))
noncomputable def leanB (m : Msg) : Bool := if m.kind = 11 then updB m else if m.kind = 12 ∨ m.kind = 13 then routeB m else if m.kind = 14 then opqB m else fieldB m
noncomputable def otherF (m : Msg) : Bs := if m.kind = 12 ∨ m.kind = 13 then (routePut m).1 else if m.kind = 14 then (tput m.type_ m.data).1 else (fieldPut m).1
theorem fieldB_kind {m : Msg} (h : fieldB m = true) : 7 ≤ m.kind ∧ m.kind ≤ 10 := by
  rcases (fieldR_iff.1 h).kinds with h | h | ⟨h, _⟩ | ⟨h, _⟩ <;> omega
theorem routeB_kind {m : Msg} (h : routeB m = true) : m.kind = 12 ∨ m.kind = 13 := by
  rcases (routeR_iff.1 h).kinds with h | ⟨h, _⟩
  · exact .inl h
  · exact .inr h
theorem opqR_iff {m : Msg} (hk : m.kind = 14) : opqB m = true ↔ OpqR m := by
  unfold opqB
  simp only [Bool.and_eq_true, decide_eq_true_eq]
  exact ⟨fun ⟨a, b, c, d⟩ => ⟨hk, a, ⟨b, c⟩, d⟩, fun h => ⟨h.bare, h.ty.1, h.ty.2, h.len⟩⟩
theorem leanR_iff {m : Msg} : leanB m = true ↔ LeanR m := by
  unfold leanB
  constructor
  · intro h
    split at h
    · exact .upd (updR_iff.1 h)
    split at h
    · exact .route (routeR_iff.1 h)
    split at h
    · rename_i hk; exact .opq ((opqR_iff hk).1 h)
    · exact .field (fieldR_iff.1 h)
  · intro h
    cases h with
    | field h =>
      have hb := fieldR_iff.2 h
      have := fieldB_kind hb
      rw [if_neg (by omega), if_neg (by omega), if_neg (by omega)]; exact hb
    | route h =>
      have hb := routeR_iff.2 h
      have := routeB_kind hb
      rw [if_neg (by omega), if_pos this]; exact hb
    | upd h => rw [if_pos h.kind]; exact updR_iff.2 h
    | opq h => rw [if_neg (by have := h.kind; omega), if_neg (by have := h.kind; omega), if_pos h.kind]; exact (opqR_iff h.kind).2 h
theorem lright_is {m : Msg} (g : GoodL m) : g_lean_Right (m, ()) = some ((leanB m, ()), ()) := by
  have op : (if bareB m = true then (if (decide (10 < m.type_)) = true then (if (decide (m.type_ < 256)) = true then some (((decide ((m.data.length : Int) < 256)), ()), ()) else some ((false, ()), ())) else some ((false, ()), ())) else some ((false, ()), ())) = (some ((opqB m, ()), ()) : Option ((Bool × Unit) × Unit)) := by
    unfold opqB
    have e : decide ((m.data.length : Int) < 256) = decide (m.data.length < 256) := by rw [Bool.eq_iff_iff]; simp; omega
    rw [e]
    cases bareB m
    · rfl
    cases decide (10 < m.type_)
    · rfl
    cases decide (m.type_ < 256)
    · rfl
    · rfl
  rw [g_lean_Right_eq, cright_is g, rtright_is g.good, bare_is, right_is g.good]
  simp only [Option.bind_some, op]
  unfold leanB
  refine bq_step (fun h => by rw [if_pos h]) (fun h => ?_)
  rw [if_neg h]
  refine bq_step (fun h2 => ?_) (fun h2 => ?_)
  · rw [if_pos (by simp [h2]), if_pos (.inl h2)]
  · refine bq_step (fun h3 => by rw [if_pos (.inr h3)]) (fun h3 => ?_)
    rw [if_neg (show ¬ (m.kind = 12 ∨ m.kind = 13) by omega)]
    exact bq_step (fun h4 => by rw [if_pos h4]) (fun h4 => by rw [if_neg h4])
theorem other_is {m : Msg} (g : GoodL m) : g_lean_other (m, ()) = some ((otherF m, ()), ()) := by
  rw [g_lean_other_eq, rtput_is' g.good, tput_is, put_is g.good]
  simp only [Option.bind_some]
  unfold otherF
  refine bq_step (fun h2 => ?_) (fun h2 => ?_)
  · rw [if_pos (by simp [h2]), if_pos (.inl h2)]
  · refine bq_step (fun h3 => by rw [if_pos (.inr h3)]) (fun h3 => ?_)
    rw [if_neg (show ¬ (m.kind = 12 ∨ m.kind = 13) by omega)]
    exact bq_step (fun h4 => by rw [if_pos h4]) (fun h4 => by rw [if_neg h4])
def idT (s : Bs) : Bs := (tput 6 (idD s)).1
def hopT (a : Bs) : Bs := (tput 7 (hopD a)).1
def updT (m : Msg) (n : Nat) : Bs := (tput 8 (updD m n)).1
theorem tput_len (t : Int) (d : Bs) : (tput t d).1.length ≤ 257 := by unfold tput; split <;> simp; omega
abbrev mkW (b : Bs) (c : Ctx) : S_lean_writer := ⟨b, c.prefix_c0, c.prefix_c1, c.prefix_c2, c.prefix_c3, c.next_c0, c.next_c1, c.id⟩
theorem lput_is {b d : Bs} {c : Ctx} {t : Int} (hb : b.length ≤ 10000) : g_lean_writer_put (mkW b c, t, d, ()) = some ((), (mkW (b ++ (tput t d).1) c, ())) := by
  have := tput_len t d
  rw [g_lean_writer_put_eq, tput_is, Option.bind_some]
  dsimp only
  rw [if_pos (roomB_of (by omega))]
theorem lid_is {b s : Bs} {c : Ctx} (hb : b.length ≤ 10000) (hs : s.length ≤ 10000) : g_lean_writer_id (mkW b c, s, ()) = some ((), (mkW (b ++ idT s) (setId c s), ())) := by
  rw [g_lean_writer_id_eq, if_pos (maxB_of (by omega)), lput_is hb, Option.bind_some]; rfl
theorem lhop_is {b a : Bs} {c : Ctx} {f : Int} (hb : b.length ≤ 10000) (h : (f = 0 ∧ a.length = 4) ∨ (f = 1 ∧ a.length = 16)) : g_lean_writer_hop (mkW b c, f, a, ()) = some ((), (mkW (b ++ hopT a) (setN c f a), ())) := by
  have hf : 0 ≤ f ∧ f < 2 := by omega
  have hal : a.length ≤ 16 := by omega
  rw [g_lean_writer_hop_eq, short_is, Option.bind_some]
  unfold hopT hopD shortF
  by_cases hl : linkB a = true
  · rw [if_pos hl, if_pos hl]
    dsimp only
    rw [ift, if_pos (maxB_of (by simp; omega)), lput_is hb, Option.bind_some, if_pos hf]; rfl
  · rw [if_neg hl, if_neg hl]
    dsimp only
    rw [iff_]
    rcases h with ⟨rfl, h⟩ | ⟨rfl, h⟩
    · rw [if_pos (by decide), if_pos (maxB_of (by omega)), lput_is hb, Option.bind_some, if_pos hf, if_pos h]; rfl
    · rw [if_neg (by decide), if_pos (maxB_of (by omega)), lput_is hb, Option.bind_some, if_pos hf, if_neg (show ¬ a.length = 4 by omega)]; rfl
theorem lbase_is {ae : Int} (h : 0 ≤ ae ∧ ae < 4) : g_lean_base (ae, ()) = some ((baseA ae, ()), ()) := by
  rw [g_lean_base_eq]
  rcases ae_cases h with rfl | rfl | rfl | rfl <;> rfl
theorem UpdR.cutl {m : Msg} (h : UpdR m) : ((cutF m.prefix_ m.plen).length : Int) = leastF m.plen ∧ baseA m.ae ≤ leastF m.plen ∧ 0 ≤ baseA m.ae := by
  have r := h.asR
  obtain ⟨l1, l2, l3, l4, l5, l6⟩ := least_base r.ae r.plen
  exact ⟨r.cut.1, l2, l1⟩
theorem lbytes_is {m : Msg} (h : UpdR m) : g_lean_bytes (m, ()) = some ((bytesP m, ()), ()) := by
  obtain ⟨hae, hpl, hbl, h16, hbs, hp16⟩ := h.pre
  obtain ⟨c1, c2, c3⟩ := h.cutl
  rw [g_lean_bytes_eq, pcut_is (by omega) (has64.2 (by omega)) (by omega), Option.bind_some, lbase_is hae, Option.bind_some]
  dsimp only
  rw [if_pos (by omega)]; rfl
def leadC (c : Ctx) (m : Msg) : Nat := if preC c m.ae = [] then 0 else leadN ((preC c m.ae).drop (baseA m.ae).toNat) (bytesP m)
theorem leadC_le (c : Ctx) (m : Msg) : leadC c m ≤ (bytesP m).length := by
  unfold leadC; split
  · omega
  · exact (leadN_le _ _).2
theorem lom_is {b : Bs} {c : Ctx} {m : Msg} (hc : okC c) (h : UpdR m) : g_lean_writer_omitted (mkW b c, m, ()) = some ((((leadC c m : Nat) : Int), ()), (mkW b c, ())) := by
  obtain ⟨hae, hpl, hbl, h16, hbs, hp16⟩ := h.pre
  have hpre : (if m.ae = 0 then c.prefix_c0 else (if m.ae = 1 then c.prefix_c1 else (if m.ae = 2 then c.prefix_c2 else c.prefix_c3))) = preC c m.ae := rfl
  rw [g_lean_writer_omitted_eq, if_pos hae]
  dsimp only
  rw [hpre]
  unfold leadC
  refine be_step (fun hq => by rw [if_pos hq]; rfl) (fun hq => ?_)
  have hl := preC_len hc hae hq
  have hsz : szA m.ae ≤ 16 ∧ baseA m.ae ≤ szA m.ae := by unfold szA baseA; refine ⟨?_, ?_⟩ <;> (split <;> (try split) <;> (try split) <;> omega)
  rw [if_neg hq, lbase_is hae, Option.bind_some]
  dsimp only
  rw [if_pos (by omega), lbytes_is h, Option.bind_some]
  dsimp only
  rw [lead_is (by simp; omega) (by omega), Option.bind_some]
theorem lloop1 {m : Msg} {n k : Nat} {N : Nat} {x0 x1 x2 : Int} {w : S_lean_writer} {p0 p1 p2 p3 x6 : Bs} (hx : x6.length ≤ 100) (hs : rightB m.subs = true) (hfs : FewS m.subs) (hB : g_lean_bytes (m, ()) = some ((bytesP m, ()), ())) (hBl : (bytesP m).length ≤ 16) (hN : N ≤ (bytesP m).length) (hw : w.b.length ≤ 10000) :
    L_lean_writer_update_1 n (k + 1) N m [x0, x1, x2] 3 w p0 p1 p2 p3 x6 3 = some ((), (mkW (w.b ++ (tput 8 ((x6 ++ (bytesP m).drop N) ++ encS m.subs)).1) ⟨p0, p1, p2, p3, w.c_Next_c0, w.c_Next_c1, w.c_Id⟩, ())) := by
  have hsl := encS_small hs
  rw [L_lean_writer_update_1_eq, ifn (by omega), sput_is hfs (by have := hfs.1; have := (rightB_split hs).2; have := sub_len (l := m.subs); omega), Option.bind_some, putS_r hs, hB, Option.bind_some]
  dsimp only
  rw [if_pos (by omega), Int.toNat_natCast, if_pos (maxB_of (by simp; omega)), if_pos (maxB_of (by simp; omega))]
  have := lput_is (b := w.b) (d := (x6 ++ (bytesP m).drop N) ++ encS m.subs) (c := ⟨p0, p1, p2, p3, w.c_Next_c0, w.c_Next_c1, w.c_Id⟩) (t := 8) hw
  rw [this]; rfl
theorem lupd_core {m : Msg} {n k : Nat} {N : Nat} {w : S_lean_writer} {p0 p1 p2 p3 x6 : Bs} (h : UpdR m) (hx : x6.length ≤ 50) (hfs : FewS m.subs) (hN : N ≤ (bytesP m).length) (hw : w.b.length ≤ 10000) :
    L_lean_writer_update_0 n (k + 4) N m w x6 [m.interval, m.seq, m.metric] 3 0 p0 p1 p2 p3 = some ((), (mkW (w.b ++ (tput 8 (x6 ++ (be 2 m.interval ++ (be 2 m.seq ++ (be 2 m.metric ++ ((bytesP m).drop N ++ encS m.subs)))))).1) ⟨p0, p1, p2, p3, w.c_Next_c0, w.c_Next_c1, w.c_Id⟩, ())) := by
  obtain ⟨hae, hpl, hbl, h16, hbs, hp16⟩ := h.pre
  have b2 : ∀ x, (be 2 x).length = 2 := fun x => be_length 2 x
  rw [L_lean_writer_update_0_eq, ifd (by omega), if_pos (by omega)]
  show (if roomB _ = true then L_lean_writer_update_1 n (k + 3) N m [m.interval, m.seq, m.metric] 3 w p0 p1 p2 p3 (x6 ++ ([u8of (IntKind.wrap .u8 (ishr .i64 m.interval 8)), u8of (IntKind.wrap .u8 m.interval)])) 1 else none) = _
  rw [if_pos (roomB_of (by simp; omega)), be2 h.iv, L_lean_writer_update_1_eq, ifd (by omega), if_pos (by omega)]
  show (if roomB _ = true then L_lean_writer_update_1 n (k + 2) N m [m.interval, m.seq, m.metric] 3 w p0 p1 p2 p3 ((x6 ++ be 2 m.interval) ++ ([u8of (IntKind.wrap .u8 (ishr .i64 m.seq 8)), u8of (IntKind.wrap .u8 m.seq)])) 2 else none) = _
  rw [if_pos (roomB_of (by simp [b2]; omega)), be2 h.sq, L_lean_writer_update_1_eq, ifd (by omega), if_pos (by omega)]
  show (if roomB _ = true then L_lean_writer_update_1 n (k + 1) N m [m.interval, m.seq, m.metric] 3 w p0 p1 p2 p3 (((x6 ++ be 2 m.interval) ++ be 2 m.seq) ++ ([u8of (IntKind.wrap .u8 (ishr .i64 m.metric 8)), u8of (IntKind.wrap .u8 m.metric)])) 3 else none) = _
  rw [if_pos (roomB_of (by simp [b2]; omega)), be2 h.me, lloop1 (by simp [b2]; omega) h.subs hfs (lbytes_is h) h16 hN hw]
  simp only [List.append_assoc]
theorem lupd_is {b : Bs} {c : Ctx} {m : Msg} {N : Nat} (h : UpdR m) (hfs : FewS m.subs) (hN : N ≤ (bytesP m).length) (hb : b.length ≤ 10000) : g_lean_writer_update (mkW b c, m, (N : Int), ()) = some ((), (mkW (b ++ updT m N) (setP c m.ae m.prefix_), ())) := by
  obtain ⟨hae, hpl, hbl, h16, hbs, hp16⟩ := h.pre
  obtain ⟨k, hk⟩ : ∃ k, fuel = k + 4 := by obtain ⟨q, e⟩ := fuel_pos; exact ⟨q + 999999999996, e⟩
  have u1 : u8of (IntKind.wrap .u8 m.ae) = u8of m.ae := u8w hae.1
  have u2 : u8of (IntKind.wrap .u8 m.plen) = u8of m.plen := u8w hpl.1
  have u3 : u8of (IntKind.wrap .u8 (N : Int)) = u8of N := u8w (by omega)
  show h_lean_writer_update fuel (mkW b c, m, (N : Int), ()) = _
  rw [h_lean_writer_update_eq, u1, u2, u3]
  generalize hf : (fuel : Nat) = F
  rw [hf] at hk
  unfold updT updD setP flagU
  have hx : ([u8of m.ae, 128, u8of m.plen, u8of N] : Bs).length ≤ 50 := by simp
  refine bq_step (fun h0 => ?_) (fun h0 => ?_)
  · rw [if_pos (by simp), if_pos (by simp), if_pos h0, if_pos h0]
    have := lupd_core (n := F) (k := k) (N := N) (w := mkW b c) (p0 := c.prefix_c0) (p1 := c.prefix_c1) (p2 := c.prefix_c2) (p3 := c.prefix_c3) (x6 := ([u8of m.ae, 128, u8of m.plen, u8of N] : Bs).set 1 (u8of 0)) h (by simp) hfs hN hb
    rw [← hk] at this
    exact this
  · rw [if_pos hae, if_neg h0, if_neg h0]
    have := lupd_core (n := F) (k := k) (N := N) (w := mkW b c) (p0 := if m.ae = 0 then m.prefix_ else c.prefix_c0) (p1 := if m.ae = 1 then m.prefix_ else c.prefix_c1) (p2 := if m.ae = 2 then m.prefix_ else c.prefix_c2) (p3 := if m.ae = 3 then m.prefix_ else c.prefix_c3) (x6 := [u8of m.ae, 128, u8of m.plen, u8of N]) h hx hfs hN hb
    rw [← hk, if_neg h0] at this
    rw [if_neg h0]
    exact this
def headL (c : Ctx) (m : Msg) : Bs := if m.metric = 65535 then [] else (if m.id = c.id then [] else idT m.id) ++ (if m.next = nextC c (famE m.ae) then [] else hopT m.next)
def knownL (c : Ctx) (m : Msg) : Ctx := if m.metric = 65535 then c else setN (setId c m.id) (famE m.ae) m.next
noncomputable def putL (c : Ctx) (m : Msg) : Bs × Ctx × Int :=
  if leanB m = false then ([], c, 1) else if m.kind ≠ 11 then (otherF m, c, 0)
  else if m.metric ≠ 65535 ∧ m.next = [] ∧ nextC c (famE m.ae) ≠ [] then ([], c, 9)
  else (headL c m ++ updT m (leadC c m), setP (knownL c m) m.ae m.prefix_, 0)
theorem setId_same {c : Ctx} {i : Bs} (h : i = c.id) : setId c i = c := by subst h; rfl
theorem setN_same {c : Ctx} {f : Int} {a : Bs} (hf : f = 0 ∨ f = 1) (h : a = nextC c f) : setN c f a = c := by
  subst h
  rcases hf with rfl | rfl <;> rfl
theorem UpdR.fam {m : Msg} (h : UpdR m) (hm : m.metric ≠ 65535) : (famE m.ae = 0 ∨ famE m.ae = 1) ∧ (m.next ≠ [] → (famE m.ae = 0 ∧ m.next.length = 4) ∨ (famE m.ae = 1 ∧ m.next.length = 16)) := by
  have hn := h.near hm
  have hf := famE_rng (ae := m.ae) (by have := h.pre.1; omega)
  refine ⟨by omega, fun hne => ?_⟩
  exact famF_cases (by rcases hn.2.2 with q | q; exact absurd q hne; exact q) (by omega)
theorem ltail {b : Bs} {c : Ctx} {m : Msg} (hc : okC c) (h : UpdR m) (hfs : FewS m.subs) (hb : b.length ≤ 1000) :
    ((g_lean_writer_omitted (mkW b c, m, ())).bind fun r6 => ((g_lean_writer_update (r6.2.1, m, r6.1.1, ())).bind fun r7 => (some ((r7.2.1.b, (S_api_Ctx.mk r7.2.1.c_Prefix_c0 r7.2.1.c_Prefix_c1 r7.2.1.c_Prefix_c2 r7.2.1.c_Prefix_c3 r7.2.1.c_Next_c0 r7.2.1.c_Next_c1 r7.2.1.c_Id), 0, ()), ()) : Option ((Bs × Ctx × Int × Unit) × Unit)))) = some ((b ++ updT m (leadC c m), setP c m.ae m.prefix_, 0, ()), ()) := by
  rw [lom_is hc h, Option.bind_some]
  dsimp only
  rw [lupd_is h hfs (leadC_le c m) (by omega), Option.bind_some]
theorem okC_setId {c : Ctx} {i : Bs} (hc : okC c) (h : i.length = 8) : okC (setId c i) := ⟨hc.1, hc.2.1, hc.2.2.1, hc.2.2.2.1, hc.2.2.2.2.1, hc.2.2.2.2.2.1, .inr h⟩
theorem okC_setN {c : Ctx} {f : Int} {a : Bs} (hc : okC c) (h : (f = 0 ∧ a.length = 4) ∨ (f = 1 ∧ a.length = 16)) : okC (setN c f a) := by
  obtain ⟨h0, h1, h2, h3, h4, h5, h6⟩ := hc
  rcases h with ⟨rfl, h⟩ | ⟨rfl, h⟩
  · exact ⟨h0, h1, h2, h3, .inr h, h5, h6⟩
  · exact ⟨h0, h1, h2, h3, h4, .inr h, h6⟩
theorem idT_len (s : Bs) : (idT s).length ≤ 257 := tput_len _ _
theorem hopT_len (s : Bs) : (hopT s).length ≤ 257 := tput_len _ _
theorem lput_main {c : Ctx} {m : Msg} (hc : okC c) (g : GoodL m) : g_lean_Put (c, m, ()) = some (((putL c m).1, (putL c m).2.1, (putL c m).2.2, ()), ()) := by
  rw [g_lean_Put_eq, lright_is g, Option.bind_some]
  unfold putL
  dsimp only
  cases hl : leanB m with
  | false => rw [ifnf, if_pos rfl]
  | true =>
  have hR := leanR_iff.1 hl
  rw [ifnt, if_neg (show ¬ (true = false) by simp)]
  refine ne_step (fun hk => ?_) (fun hk => ?_)
  · rw [other_is g, Option.bind_some, if_pos hk]
  rw [if_neg (show ¬ (m.kind ≠ 11) from fun q => q hk)]
  have h : UpdR m := by
    cases hR with
    | field h => have := fieldB_kind (fieldR_iff.2 h); omega
    | route h => have := routeB_kind (routeR_iff.2 h); omega
    | upd h => exact h
    | opq h => have := h.kind; omega
  have hfs := fewS_of g.good
  unfold headL knownL
  refine ne_step (fun hm => ?_) (fun hm => ?_)
  rotate_left
  · rw [if_neg (show ¬ (m.metric ≠ 65535 ∧ m.next = [] ∧ nextC c (famE m.ae) ≠ []) from fun q => q.1 hm), if_pos hm, if_pos hm]
    exact ltail hc h hfs (by simp)
  have hn := h.near hm
  obtain ⟨hf, hop⟩ := h.fam hm
  have hf2 : 0 ≤ famE m.ae ∧ famE m.ae < 2 := by omega
  have hnx : (if famE m.ae = 0 then c.next_c0 else c.next_c1) = nextC c (famE m.ae) := rfl
  rw [cfam_is, Option.bind_some]
  dsimp only
  rw [hnx, if_neg hm, if_neg hm]
  simp only [if_pos hf2]
  have hil : m.id.length ≤ 10000 := by omega
  have nohop : ∀ (b : Bs) (k : Ctx), okC k → b.length ≤ 300 → nextC k (famE m.ae) = nextC c (famE m.ae) → m.next = nextC c (famE m.ae) → leadC k m = leadC c m →
      ((g_lean_writer_omitted (mkW b k, m, ())).bind fun r6 => ((g_lean_writer_update (r6.2.1, m, r6.1.1, ())).bind fun r7 => (some ((r7.2.1.b, (S_api_Ctx.mk r7.2.1.c_Prefix_c0 r7.2.1.c_Prefix_c1 r7.2.1.c_Prefix_c2 r7.2.1.c_Prefix_c3 r7.2.1.c_Next_c0 r7.2.1.c_Next_c1 r7.2.1.c_Id), 0, ()), ()) : Option ((Bs × Ctx × Int × Unit) × Unit)))) = some ((((b ++ []) ++ updT m (leadC c m)), setP (setN k (famE m.ae) m.next) m.ae m.prefix_, 0, ()), ()) := fun b k hk hb e1 e2 e3 => by
    rw [ltail hk h hfs (by omega), setN_same hf (by rw [e1]; exact e2), e3, List.append_nil]
  have wihop : ∀ (b : Bs) (k : Ctx), okC k → b.length ≤ 300 → m.next ≠ [] → leadC k m = leadC c m →
      ((g_lean_writer_hop (mkW b k, famE m.ae, m.next, ())).bind fun r5 => ((g_lean_writer_omitted (r5.2.1, m, ())).bind fun r6 => ((g_lean_writer_update (r6.2.1, m, r6.1.1, ())).bind fun r7 => (some ((r7.2.1.b, (S_api_Ctx.mk r7.2.1.c_Prefix_c0 r7.2.1.c_Prefix_c1 r7.2.1.c_Prefix_c2 r7.2.1.c_Prefix_c3 r7.2.1.c_Next_c0 r7.2.1.c_Next_c1 r7.2.1.c_Id), 0, ()), ()) : Option ((Bs × Ctx × Int × Unit) × Unit))))) = some ((((b ++ hopT m.next) ++ updT m (leadC c m)), setP (setN k (famE m.ae) m.next) m.ae m.prefix_, 0, ()), ()) := fun b k hk hb hne e3 => by
    have hl := hopT_len m.next
    rw [lhop_is (by omega) (hop hne), Option.bind_some]
    dsimp only
    rw [ltail (okC_setN hk (hop hne)) h hfs (by simp; omega)]
    have : leadC (setN k (famE m.ae) m.next) m = leadC k m := rfl
    rw [this, e3]
  have hl0 : leadC (setId c m.id) m = leadC c m := rfl
  have hidl := idT_len m.id
  by_cases hne : m.next = []
  · rw [if_pos (by simp [hne])]
    by_cases hq : nextC c (famE m.ae) = []
    · rw [if_neg (by simp [hq]), if_neg (show ¬ (m.metric ≠ 65535 ∧ m.next = [] ∧ nextC c (famE m.ae) ≠ []) from fun q => q.2.2 hq)]
      have e2 : m.next = nextC c (famE m.ae) := by rw [hne, hq]
      by_cases hi : m.id = c.id
      · rw [if_neg (by simp [hi]), if_neg (by simp [e2]), if_pos hi, if_pos e2, setId_same hi]
        exact nohop [] c hc (by simp) rfl e2 rfl
      · rw [if_pos (by simp [hi]), if_neg hi, if_pos e2, lid_is (by simp) hil, Option.bind_some]
        dsimp only
        rw [if_neg (by simp [e2])]
        exact nohop (idT m.id) (setId c m.id) (okC_setId hc hn.2.1) (by omega) rfl e2 hl0
    · rw [if_pos (by simp [hq]), if_pos ⟨hm, hne, hq⟩]
  · rw [if_neg (by simpa using hne), if_neg (show ¬ (m.metric ≠ 65535 ∧ m.next = [] ∧ nextC c (famE m.ae) ≠ []) from fun q => hne q.2.1)]
    by_cases hi : m.id = c.id
    · rw [if_neg (by simp [hi]), if_pos hi, setId_same hi]
      by_cases e2 : m.next = nextC c (famE m.ae)
      · rw [if_neg (by simp [e2]), if_pos e2]
        exact nohop [] c hc (by simp) rfl e2 rfl
      · rw [if_pos (by simpa using e2), if_neg e2]
        exact wihop [] c hc (by simp) hne rfl
    · rw [if_pos (by simp [hi]), if_neg hi, lid_is (by simp) hil, Option.bind_some]
      dsimp only
      by_cases e2 : m.next = nextC c (famE m.ae)
      · rw [if_neg (by simp [e2]), if_pos e2]
        exact nohop (idT m.id) (setId c m.id) (okC_setId hc hn.2.1) (by omega) rfl e2 hl0
      · rw [if_pos (by simpa using e2), if_neg e2]
        exact wihop (idT m.id) (setId c m.id) (okC_setId hc hn.2.1) (by omega) hne hl0
end Go.VP
set_option linter.unusedVariables false
set_option linter.unusedSimpArgs false
set_option maxRecDepth 100000
namespace Go.VP
open Go Go.VI
def Tg' (t : Tlv) : Prop := ((0 ≤ t.type_ ∧ t.type_ ≤ 255) ∧ t.data.length ≤ 255) ∧ t.type_ ≠ 0 ∧ t.type_ ≠ 1
def Says (c : Ctx) (s : Bs) (M : List Msg) (d : Ctx) : Prop := ∀ p, ∃ l, spl p s = .ok l ∧ (∀ t ∈ l, Tg' t) ∧ ∀ acc, foldR c l acc = (acc ++ M, d, 0, 0)
theorem says_nil (c : Ctx) : Says c [] [] c := fun p => ⟨[], spl_nil p, (fun t ht => by cases ht), fun acc => by rw [foldR, List.append_nil]⟩
theorem says_app {c d e : Ctx} {s t : Bs} {M N : List Msg} (h : Says c s M d) (h2 : Says d t N e) : Says c (s ++ t) (M ++ N) e := fun p => by
  obtain ⟨l, l1, l2, l3⟩ := h p
  obtain ⟨k, k1, k2, k3⟩ := h2 (p + s.length)
  refine ⟨l ++ k, by rw [spl_append s p l l1, k1]; rfl, fun x hx => ?_, fun acc => ?_⟩
  · rcases List.mem_append.1 hx with hx | hx
    · exact l2 x hx
    · exact k2 x hx
  · rw [foldR_app l k c acc (by rw [l3]), l3, k3, List.append_assoc]
theorem says_one {c d : Ctx} {t : Int} {b : Bs} {M : List Msg} (ht : 2 ≤ t ∧ t ≤ 255) (hb : b.length ≤ 255) (h : oneR c t b = (d, M, 0)) : Says c (tput t b).1 M d := fun p => by
  have e : (tput t b).1 = u8of t :: u8of b.length :: b := by unfold tput; rw [if_pos ⟨by omega, ht.2, hb⟩]
  refine ⟨[⟨t, p, b⟩], by rw [e]; exact spl_tput ⟨by omega, ht.2⟩ hb, fun x hx => ?_, fun acc => ?_⟩
  · rw [List.mem_singleton] at hx; subst hx
    exact ⟨⟨⟨by show 0 ≤ t; omega, ht.2⟩, hb⟩, by show t ≠ 0; omega, by show t ≠ 1; omega⟩
  · rw [foldR]
    dsimp only
    rw [h, if_neg (by simp), foldR]
theorem resF_yes {c : Ctx} {m : Msg} : resF c (m, true, 0) = (c, [m], 0) := by unfold resF; rw [if_neg (by simp), if_pos rfl]
theorem says_field {c : Ctx} {m : Msg} (h : FieldR m) : Says c (fieldPut m).1 [m] c := by
  obtain ⟨h1, h2, h3⟩ := fieldPut_ok h
  have e : (fieldPut m).1 = (tput (m.kind - 5) (fieldsF m ++ encS m.subs)).1 := by unfold fieldPut; rw [if_pos (fieldR_iff.2 h)]
  rw [e]
  refine says_one (by omega) h2 ?_
  unfold oneR
  rw [if_neg (by omega), if_neg (by omega), if_pos (by omega), fieldG_back h, resF_yes]
theorem says_route {c : Ctx} {m : Msg} (h : RouteR m) : Says c (routePut m).1 [m] c := by
  obtain ⟨h1, h2⟩ := routePut_ok h
  have e : (routePut m).1 = (tput (if m.kind = 13 then 10 else 9) (headF m ++ encS m.subs)).1 := by unfold routePut; rw [if_pos (routeR_iff.2 h)]
  have ht : (if m.kind = 13 then (10 : Int) else 9) = 9 ∨ (if m.kind = 13 then (10 : Int) else 9) = 10 := by split <;> omega
  have hb := routeG_back h
  rw [e]
  generalize (if m.kind = 13 then (10 : Int) else 9) = t at *
  refine says_one (by omega) h2 ?_
  unfold oneR
  rw [if_neg (by omega), if_neg (by omega), if_neg (by omega), if_pos (by omega), hb, resF_yes]
theorem OpqR.eq {m : Msg} (h : OpqR m) : opaqueM m.type_ m.data = m := by
  have hx : bareOf m = some ⟨m.kind, 0, 0, [], 0, 0, [], 0, 0, [], 0, [], 0, 0, 0, 0, 0, 0, 0, [], [], [], m.type_, m.data, []⟩ := by
    have hk := h.kind
    unfold bareOf; rw [if_neg (by omega), if_neg (by omega), if_neg (by omega), if_neg (by omega), if_neg (by omega), if_neg (by omega), if_neg (by omega), if_neg (by omega), if_neg (by omega), if_neg (by omega), if_neg (by omega), if_neg (by omega), if_neg (by omega), if_pos hk]
  have hb := h.bare
  rw [bareB, hx] at hb
  have := eqB_true.1 hb
  rw [h.kind] at this
  exact this
theorem says_opq {c : Ctx} {m : Msg} (h : OpqR m) : Says c (tput m.type_ m.data).1 [m] c := by
  refine says_one (by have := h.ty; omega) (by have := h.len; omega) ?_
  have := h.ty
  unfold oneR
  rw [if_neg (by omega), if_neg (by omega), if_neg (by omega), if_neg (by omega), h.eq]
theorem says_other {c : Ctx} {m : Msg} (h : LeanR m) (hk : m.kind ≠ 11) : Says c (otherF m) [m] c := by
  unfold otherF
  cases h with
  | field h =>
    have := fieldB_kind (fieldR_iff.2 h)
    rw [if_neg (by omega), if_neg (by omega)]; exact says_field h
  | route h =>
    have := routeB_kind (routeR_iff.2 h)
    rw [if_pos this]; exact says_route h
  | upd h => exact absurd h.kind hk
  | opq h =>
    have := h.kind
    rw [if_neg (by omega), if_pos this]; exact says_opq h
theorem says_id {c : Ctx} {s : Bs} (h : s.length = 8) : Says c (idT s) [] (setId c s) := by
  refine says_one (by omega) (by unfold idD; simp; omega) ?_
  unfold oneR
  rw [if_neg (by omega), if_pos (by omega)]
  unfold stepC
  rw [if_pos rfl, idF_back h]
theorem hopD_len {a : Bs} (h : a.length ≤ 16) : (hopD a).length ≤ 255 := by
  unfold hopD; split
  · simp; omega
  split <;> simp <;> omega
theorem says_hop {c : Ctx} {a : Bs} {f : Int} (h : (f = 0 ∧ a.length = 4) ∨ (f = 1 ∧ a.length = 16)) : Says c (hopT a) [] (setN c f a) := by
  refine says_one (by omega) (hopD_len (by omega)) ?_
  unfold oneR
  rw [if_neg (by omega), if_pos (by omega)]
  unfold stepC
  rw [if_neg (by omega), if_pos rfl, hopF_back h]
theorem says_upd {c : Ctx} {m : Msg} {n : Nat} (hc : okC c) (h : UpdR m) (hn : n ≤ (bytesP m).length)
    (hk : n ≠ 0 → preC c m.ae ≠ [] ∧ ((preC c m.ae).drop (baseA m.ae).toNat).take n = (bytesP m).take n)
    (hf : m.metric ≠ 65535 → c.id = m.id ∧ nextC c (famE m.ae) = m.next) : Says c (updT m n) [m] (setP c m.ae m.prefix_) := by
  have hl := updD_len h n
  have hs := encS_small h.subs
  obtain ⟨_, _, _, h16, _, _⟩ := h.pre
  refine says_one (by omega) (by omega) ?_
  unfold oneR
  rw [if_neg (by omega), if_pos (by omega)]
  unfold stepC
  rw [if_neg (by omega), if_neg (by omega), if_pos rfl, updF_upd hc h hn hk hf]
theorem leadC_ok (c : Ctx) (m : Msg) : leadC c m ≠ 0 → preC c m.ae ≠ [] ∧ ((preC c m.ae).drop (baseA m.ae).toNat).take (leadC c m) = (bytesP m).take (leadC c m) := by
  intro h
  by_cases hq : preC c m.ae = []
  · unfold leadC at h; rw [if_pos hq] at h; exact absurd rfl h
  · refine ⟨hq, ?_⟩
    unfold leadC; rw [if_neg hq]; exact leadN_take _ _
theorem nextC_setN {c : Ctx} {f : Int} {a : Bs} (hf : f = 0 ∨ f = 1) : nextC (setN c f a) f = a := by rcases hf with rfl | rfl <;> rfl
theorem LeanR.upd_of {m : Msg} (h : LeanR m) (hk : m.kind = 11) : UpdR m := by
  cases h with
  | field h => have := fieldB_kind (fieldR_iff.2 h); omega
  | route h => have := routeB_kind (routeR_iff.2 h); omega
  | upd h => exact h
  | opq h => have := h.kind; omega
theorem says_update {c : Ctx} {m : Msg} {n : Nat} {i h : Bs} (hc : okC c) (hu : UpdR m) (hm : m.metric ≠ 65535) (hn : n ≤ (bytesP m).length)
    (hk : n ≠ 0 → preC c m.ae ≠ [] ∧ ((preC c m.ae).drop (baseA m.ae).toNat).take n = (bytesP m).take n)
    (hi : i = idT m.id ∨ (i = [] ∧ m.id = c.id)) (hh : (h = hopT m.next ∧ m.next ≠ []) ∨ (h = [] ∧ m.next = nextC c (famE m.ae))) :
    Says c ((i ++ h) ++ updT m n) [m] (setP (setN (setId c m.id) (famE m.ae) m.next) m.ae m.prefix_) := by
  obtain ⟨hf, hop⟩ := hu.fam hm
  have hid := (hu.near hm).2.1
  have hc1 := okC_setId hc hid
  have s1 : Says c i [] (setId c m.id) := by
    rcases hi with rfl | ⟨rfl, e⟩
    · exact says_id hid
    · rw [setId_same e]; exact says_nil c
  have hc2 : okC (setN (setId c m.id) (famE m.ae) m.next) ∧ Says (setId c m.id) h [] (setN (setId c m.id) (famE m.ae) m.next) := by
    rcases hh with ⟨rfl, e⟩ | ⟨rfl, e⟩
    · exact ⟨okC_setN hc1 (hop e), says_hop (hop e)⟩
    · have e' : m.next = nextC (setId c m.id) (famE m.ae) := e
      rw [setN_same hf e']; exact ⟨hc1, says_nil _⟩
  have s3 : Says (setN (setId c m.id) (famE m.ae) m.next) (updT m n) [m] _ := says_upd hc2.1 hu hn hk (fun _ => ⟨rfl, nextC_setN hf⟩)
  have := says_app (says_app s1 hc2.2) s3
  exact this
theorem putL_back {c : Ctx} {m : Msg} (hc : okC c) (h : LeanR m) (he : (putL c m).2.2 = 0) : Says c (putL c m).1 [m] (putL c m).2.1 := by
  unfold putL at he ⊢
  rw [leanR_iff.2 h] at he ⊢
  rw [if_neg (show ¬ (true = false) by simp)] at he ⊢
  by_cases hk : m.kind ≠ 11
  · rw [if_pos hk]; exact says_other h hk
  rw [if_neg hk] at he ⊢
  have hu := h.upd_of (by simpa using hk)
  by_cases hx : m.metric ≠ 65535 ∧ m.next = [] ∧ nextC c (famE m.ae) ≠ []
  · rw [if_pos hx] at he; exact absurd he (show ¬ ((9 : Int) = 0) by decide)
  rw [if_neg hx]
  have hle := leadC_le c m
  have hok := leadC_ok c m
  unfold headL knownL
  by_cases hm : m.metric = 65535
  · rw [if_pos hm, if_pos hm, List.nil_append]
    exact says_upd hc hu hle hok (fun q => absurd hm q)
  · rw [if_neg hm, if_neg hm]
    refine says_update hc hu hm hle hok ?_ ?_
    · by_cases hi : m.id = c.id
      · rw [if_pos hi]; exact .inr ⟨rfl, hi⟩
      · rw [if_neg hi]; exact .inl rfl
    · by_cases hnx : m.next = nextC c (famE m.ae)
      · rw [if_pos hnx]; exact .inr ⟨rfl, hnx⟩
      · rw [if_neg hnx]
        refine .inl ⟨rfl, fun e => ?_⟩
        exact hx ⟨hm, e, fun q => hnx (by rw [e, q])⟩
theorem putL_ok {c : Ctx} {m : Msg} (hc : okC c) (h : LeanR m) : okC (putL c m).2.1 := by
  unfold putL
  split
  · exact hc
  split
  · exact hc
  split
  · exact hc
  rename_i hk hx
  have hu := h.upd_of (by simpa using hk)
  have hk2 : okC (knownL c m) := by
    unfold knownL
    split
    · exact hc
    · rename_i hm
      obtain ⟨hf, hop⟩ := hu.fam hm
      have hc1 := okC_setId (i := m.id) hc (hu.near hm).2.1
      by_cases hne : m.next = []
      · have e : m.next = nextC (setId c m.id) (famE m.ae) := by
          rw [hne]
          show [] = nextC c (famE m.ae)
          cases hq : nextC c (famE m.ae) with
          | nil => rfl
          | cons a b => exact absurd ⟨hm, hne, by rw [hq]; simp⟩ hx
        rw [setN_same hf e]; exact hc1
      · exact okC_setN hc1 (hop hne)
  obtain ⟨a, b, c', d, e⟩ := inB_iff.1 hu.inn
  obtain ⟨h0, h1, h2, h3, h4, h5, h6⟩ := hk2
  show okC (setP (knownL c m) m.ae m.prefix_)
  unfold setP
  split
  · exact ⟨h0, h1, h2, h3, h4, h5, h6⟩
  · refine ⟨h0, ?_, ?_, ?_, h4, h5, h6⟩
    · dsimp only
      split
      · rename_i q; rw [q] at b; right; have : szA 1 = 4 := rfl; omega
      · exact h1
    · dsimp only
      split
      · rename_i q; rw [q] at b; right; have : szA 2 = 16 := rfl; omega
      · exact h2
    · dsimp only
      split
      · rename_i q; exact .inr (e q)
      · exact h3
end Go.VP
set_option linter.unusedVariables false
set_option linter.unusedSimpArgs false
set_option maxRecDepth 100000
namespace Go.VP
open Go Go.VI
noncomputable def outS : Ctx → List Msg → Option (Bs × Ctx)
  | c, [] => some ([], c)
  | c, m :: r => if (putL c m).2.2 ≠ 0 then none else (outS (putL c m).2.1 r).map fun x => ((putL c m).1 ++ x.1, x.2)
noncomputable def goO : Ctx → List Msg → Nat → Bs → Bs × Int × Int
  | _, [], _, b => ((wrapF b).1, 0, 0)
  | c, m :: r, i, b => if (putL c m).2.2 ≠ 0 then ([], i, (putL c m).2.2) else if 65531 < ((b ++ (putL c m).1).length : Int) then ([], i, 10) else goO (putL c m).2.1 r (i + 1) (b ++ (putL c m).1)
noncomputable def badL : List Msg → Nat → Option Nat
  | [], _ => none
  | m :: r, i => if leanB m = false then some i else badL r (i + 1)
noncomputable def encO (l : List Msg) : Bs × Int × Int := match badL l 0 with
  | some i => ([], i, 1)
  | none => goO c0 l 0 []
theorem badL_none : ∀ {l : List Msg} {i : Nat}, badL l i = none ↔ ∀ m ∈ l, leanB m = true
  | [], i => by simp [badL]
  | m :: r, i => by
    rw [badL]
    by_cases h : leanB m = false
    · rw [if_pos h]; simp [h]
    · rw [if_neg h, badL_none (l := r)]
      simp at h; simp [h]
theorem outS_says : ∀ {l : List Msg} {c d : Ctx} {s : Bs}, okC c → (∀ m ∈ l, LeanR m) → outS c l = some (s, d) → Says c s l d ∧ okC d
  | [], c, d, s, hc, hl, h => by rw [outS] at h; cases h; exact ⟨says_nil c, hc⟩
  | m :: r, c, d, s, hc, hl, h => by
    rw [outS] at h
    split at h
    · cases h
    · rename_i he
      have he : (putL c m).2.2 = 0 := by simpa using he
      cases ho : outS (putL c m).2.1 r with
      | none => rw [ho] at h; cases h
      | some x =>
        rw [ho] at h
        cases h
        have hR := hl m (List.mem_cons_self ..)
        obtain ⟨h1, h2⟩ := outS_says (putL_ok hc hR) (fun x hx => hl x (List.mem_cons_of_mem _ hx)) ho
        exact ⟨says_app (putL_back hc hR he) h1, h2⟩
theorem goO_of : ∀ {l : List Msg} {c d : Ctx} {s b : Bs} {i : Nat}, outS c l = some (s, d) → ((b ++ s).length : Int) ≤ 65531 → goO c l i b = ((wrapF (b ++ s)).1, 0, 0)
  | [], c, d, s, b, i, h, hl => by rw [outS] at h; cases h; rw [goO, List.append_nil]
  | m :: r, c, d, s, b, i, h, hl => by
    rw [outS] at h
    split at h
    · cases h
    · rename_i he
      cases ho : outS (putL c m).2.1 r with
      | none => rw [ho] at h; cases h
      | some x =>
        rw [ho] at h
        cases h
        rw [← List.append_assoc] at hl ⊢
        have hl2 : (((b ++ (putL c m).1) ++ x.1).length : Int) ≤ 65531 := hl
        rw [goO, if_neg he, if_neg (by simp only [List.length_append] at hl2 ⊢; omega)]
        exact goO_of ho hl2
theorem goO_inv : ∀ {l : List Msg} {c : Ctx} {b : Bs} {i : Nat}, (goO c l i b).2.2 = 0 → (b.length : Int) ≤ 65531 → ∃ s d, outS c l = some (s, d) ∧ ((b ++ s).length : Int) ≤ 65531
  | [], c, b, i, h, hb => ⟨[], c, rfl, by simpa using hb⟩
  | m :: r, c, b, i, h, hb => by
    rw [goO] at h
    split at h
    · rename_i he; exact absurd h he
    rename_i he
    split at h
    · exact absurd h (show ¬ ((10 : Int) = 0) by decide)
    rename_i hl
    obtain ⟨s, d, h1, h2⟩ := goO_inv h (by omega)
    exact ⟨(putL c m).1 ++ s, d, by rw [outS, if_neg he, h1]; rfl, by rw [← List.append_assoc]; exact h2⟩
theorem parse_out {l : List Msg} {s : Bs} {d : Ctx} (h : Says c0 s l d) (hs : (s.length : Int) ≤ 65531) : parseI (wrapF s).1 = (l, 0, 0) := by
  obtain ⟨w1, w2, w3, w4⟩ := body_wrap (s := s) (t := []) (by omega) (by simp; omega)
  rw [List.append_nil] at w1 w2
  obtain ⟨tl, h1, h2, h3⟩ := h 4
  have hf := h3 []
  unfold parseI
  rw [w1, w2, if_neg (by simp)]
  dsimp only
  rw [h1, spl_nil]
  dsimp only
  rw [hf]; rfl
theorem encO_ok {l : List Msg} (h : (encO l).2.2 = 0) : (∀ m ∈ l, leanB m = true) ∧ ∃ s d, outS c0 l = some (s, d) ∧ (s.length : Int) ≤ 65531 ∧ encO l = ((wrapF s).1, 0, 0) ∧ Says c0 s l d ∧ (encO l).1.length = 4 + s.length := by
  unfold encO at h ⊢
  cases hb : badL l 0 with
  | some i => rw [hb] at h; exact absurd h (show ¬ ((1 : Int) = 0) by decide)
  | none =>
    rw [hb] at h
    dsimp only at h ⊢
    have hl := badL_none.1 hb
    obtain ⟨s, d, h1, h2⟩ := goO_inv h (by simp)
    have h2' : (s.length : Int) ≤ 65531 := by simpa using h2
    have h3 := goO_of (i := 0) (b := []) h1 (by simpa using h2')
    rw [List.nil_append] at h3
    refine ⟨hl, s, d, h1, h2', h3, (outS_says okC_c0 (fun m hm => leanR_iff.1 (hl m hm)) h1).1, ?_⟩
    rw [h3]
    exact (body_wrap (s := s) (t := []) (by omega) (by simp; omega)).2.2.1
end Go.VP
set_option linter.unusedVariables false
set_option linter.unusedSimpArgs false
set_option maxRecDepth 100000
namespace Go.VP
open Go Go.VI
theorem putL_small (c : Ctx) (m : Msg) : (putL c m).1.length ≤ 800 := by
  have h1 := idT_len m.id; have h2 := hopT_len m.next; have h3 : (updT m (leadC c m)).length ≤ 257 := tput_len _ _
  have h4 : (otherF m).length ≤ 257 := by
    unfold otherF routePut fieldPut
    split
    · split
      · exact tput_len _ _
      · simp
    split
    · exact tput_len _ _
    split
    · exact tput_len _ _
    · simp
  have h5 : (headL c m).length ≤ 514 := by
    unfold headL
    split
    · simp
    · have a1 : (if m.id = c.id then [] else idT m.id).length ≤ 257 := by
        split
        · simp
        · exact h1
      have a2 : (if m.next = nextC c (famE m.ae) then [] else hopT m.next).length ≤ 257 := by
        split
        · simp
        · exact h2
      rw [List.length_append]; omega
  unfold putL
  split
  · simp
  split
  · dsimp only; omega
  split
  · simp
  · dsimp only; rw [List.length_append]; omega
theorem oenc1_loop {l : List Msg} {n : Nat} (hl : l.length ≤ 100000) (hg : ∀ m ∈ l, GoodL m) (hb : ∀ m ∈ l, leanB m = true) : ∀ (d k i : Nat) (c : Ctx) (b : Bs), i + d = l.length → d < k → okC c → b.length ≤ 65531 →
    L_outlet_Encode_1 n k l b c.prefix_c0 c.prefix_c1 c.prefix_c2 c.prefix_c3 c.next_c0 c.next_c1 c.id i = some (trip (goO c (l.drop i) i b), ()) := by
  intro d
  induction d with
  | zero =>
    intro k i c b hd hk hc hbl
    obtain ⟨k, rfl⟩ : ∃ q, k = q + 1 := ⟨k - 1, by omega⟩
    rw [L_outlet_Encode_1_eq, ifn (by omega), wrap_is (by omega), List.drop_eq_nil_of_le (by omega)]; rfl
  | succ d ih =>
    intro k i c b hd hk hc hbl
    obtain ⟨k, rfl⟩ : ∃ q, k = q + 1 := ⟨k - 1, by omega⟩
    have hi : i < l.length := by omega
    have hp : 0 ≤ (i : Int) := by omega
    have hm := hb _ (List.getElem_mem hi)
    have hgm := hg _ (List.getElem_mem hi)
    have ih' := fun c b => ih k (i + 1) c b (by omega) (by omega)
    rw [show ((i + 1 : Nat) : Int) = (i : Int) + 1 by omega] at ih'
    rw [L_outlet_Encode_1_eq, ifd (by omega), if_pos hp, Int.toNat_natCast, bind_at hi, List.drop_eq_getElem_cons hi, goO]
    generalize l[i] = m at *
    have hlen := putL_small c m
    rw [show (S_api_Ctx.mk c.prefix_c0 c.prefix_c1 c.prefix_c2 c.prefix_c3 c.next_c0 c.next_c1 c.id) = c from rfl, lput_main hc hgm, Option.bind_some]
    dsimp only
    refine ne_step (fun he => by rw [if_pos he]) (fun he => ?_)
    rw [if_neg (show ¬ (putL c m).2.2 ≠ 0 from fun q => q he), if_pos (roomB_of (by omega))]
    refine dq_step' (fun q => by rw [if_pos q]) (fun q => ?_)
    rw [if_neg q, w64 (by omega) (by omega)]
    exact ih' _ _ (putL_ok hc (leanR_iff.1 hm)) (by omega)
theorem oenc0_loop {l : List Msg} {n : Nat} (hn : 1000000 ≤ n) (hl : l.length ≤ 100000) (hg : ∀ m ∈ l, GoodL m) : ∀ (d k i : Nat), i + d = l.length → d < k → (∀ m ∈ l.take i, leanB m = true) →
    L_outlet_Encode_0 n k l i = some (trip (match badL (l.drop i) i with | some j => ([], (j : Int), 1) | none => goO c0 l 0 []), ()) := by
  intro d
  induction d with
  | zero =>
    intro k i hd hk hq
    obtain ⟨k, rfl⟩ : ∃ q, k = q + 1 := ⟨k - 1, by omega⟩
    rw [List.take_of_length_le (by omega)] at hq
    have := oenc1_loop (n := n) hl hg hq l.length n 0 c0 [] (by omega) (by omega) okC_c0 (by simp)
    rw [L_outlet_Encode_0_eq, ifn (by omega), List.drop_eq_nil_of_le (by omega)]
    exact this
  | succ d ih =>
    intro k i hd hk hq
    obtain ⟨k, rfl⟩ : ∃ q, k = q + 1 := ⟨k - 1, by omega⟩
    have hi : i < l.length := by omega
    have hp : 0 ≤ (i : Int) := by omega
    have ih' := ih k (i + 1) (by omega) (by omega)
    rw [show ((i + 1 : Nat) : Int) = (i : Int) + 1 by omega] at ih'
    have hgm := hg _ (List.getElem_mem hi)
    rw [L_outlet_Encode_0_eq, ifd (by omega), if_pos hp, Int.toNat_natCast, bind_at hi, lright_is hgm, Option.bind_some, List.drop_eq_getElem_cons hi, badL]
    dsimp only
    cases hm : leanB l[i] with
    | false => rw [ifnf, if_pos rfl]
    | true =>
      rw [ifnt, if_neg (show ¬ (true = false) by simp), w64 (by omega) (by omega)]
      refine ih' (fun x hx => ?_)
      rw [List.take_succ_eq_append_getElem hi, List.mem_append, List.mem_singleton] at hx
      rcases hx with hx | rfl
      · exact hq x hx
      · exact hm
theorem oenc_is {l : List Msg} (hl : l.length ≤ 100000) (hg : ∀ m ∈ l, GoodL m) : g_outlet_Encode (l, ()) = some (trip (encO l), ()) := by
  show h_outlet_Encode fuel (l, ()) = _
  rw [h_outlet_Encode_eq]
  exact oenc0_loop (n := fuel) (Nat.le_of_lt (fuel_ge (by omega))) hl hg l.length fuel 0 (by omega) (fuel_ge (by omega)) (fun m hm => by simp at hm)
end Go.VP
set_option linter.unusedVariables false
set_option linter.unusedSimpArgs false
set_option maxRecDepth 100000
namespace Go.VP
open Go Go.VI
def zeroB (s : Bs) : Bool := s.all (· == 0)
theorem zero_loop {n : Nat} {s : Bs} (hs : s.length ≤ 1000000000) : ∀ (d m i : Nat), i + d = s.length → d < m → L_octet_Zero_0 n m s i = some (((s.drop i).all (· == 0), ()), ()) := by
  intro d
  induction d with
  | zero =>
    intro m i hd hm
    obtain ⟨m, rfl⟩ : ∃ k, m = k + 1 := ⟨m - 1, by omega⟩
    rw [L_octet_Zero_0_eq, ifn (by omega), List.drop_eq_nil_of_le (by omega)]; rfl
  | succ d ih =>
    intro m i hd hm
    obtain ⟨m, rfl⟩ : ∃ k, m = k + 1 := ⟨m - 1, by omega⟩
    have ha : i < s.length := by omega
    have := ih m (i + 1) (by omega) (by omega)
    rw [show ((i + 1 : Nat) : Int) = (i : Int) + 1 by omega] at this
    rw [L_octet_Zero_0_eq, ifd (by omega), if_pos (by omega), Int.toNat_natCast, bind_at ha, w64 (by omega) (by omega), this, List.drop_eq_getElem_cons ha, List.all_cons]
    refine ne_step (fun h => ?_) (fun h => ?_)
    · have : (s[i] == 0) = false := by
        rw [beq_eq_false_iff_ne]; intro e; rw [e] at h; exact h rfl
      rw [this]; rfl
    · have : s[i] = 0 := u8_eq h
      rw [this]; simp
theorem zero_is {s : Bs} (hs : s.length ≤ 1000000000) : g_octet_Zero (s, ()) = some ((zeroB s, ()), ()) := by
  show h_octet_Zero fuel (s, ()) = _
  rw [h_octet_Zero_eq]
  exact zero_loop hs s.length fuel 0 (by omega) (fuel_ge (by omega))
abbrev z4 : Bs := [0, 0, 0, 0]
theorem zero4 {s : Bs} (h : s.length = 4) : zeroB s = true ↔ s = z4 := by
  match s, h with
  | [a, b, c, d], _ => simp [zeroB]
theorem zero8 {s t : Bs} (h : s.length = 4) (h' : t.length = 4) : zeroB (s ++ t) = true ↔ s = z4 ∧ t = z4 := by
  rw [← zero4 h, ← zero4 h']; simp [zeroB, List.all_append]
def entF (s : Bs) : S_api_Entry := ⟨num (cut_ s 0 2), num (cut_ s 2 2), cut_ s 4 4, cut_ s 8 4, cut_ s 12 4, num (cut_ s 16 4)⟩
theorem rnum_ok {s : Bs} {p q n : Int} (w : WfC s p q) (h : 1 ≤ n) (h7 : n ≤ 7) (h2 : p + n ≤ q) : g_entry_reader_num (⟨s, p, q, false⟩, n, ()) = some ((num (cut_ s p n), ()), (⟨s, p + n, q, false⟩, ())) := by
  rw [g_entry_reader_num_eq]
  have := num_ok w h h7 h2
  unfold cu at this
  dsimp only
  rw [this]; rfl
theorem rfour_ok {s : Bs} {p q : Int} (w : WfC s p q) (h2 : p + 4 ≤ q) : g_entry_reader_four (⟨s, p, q, false⟩, ()) = some ((cut_ s p 4, ()), (⟨s, p + 4, q, false⟩, ())) := by
  rw [g_entry_reader_four_eq]
  have := text_ok (n := 4) w (by omega) h2
  unfold cu at this
  dsimp only
  rw [this]; rfl
theorem entGet_is {s : Bs} (h : s.length = 20) : g_entry_Get (s, ()) = some ((entF s, true, ()), ()) := by
  have w := WfC.whole (s := s) (by omega)
  rw [g_entry_Get_eq, if_neg (by simp [h]), new_is, Option.bind_some]
  dsimp only [cu]
  rw [rnum_ok w (by omega) (by omega) (by omega), Option.bind_some]
  dsimp only
  rw [rnum_ok (w.fwd (by omega) (by omega)) (by omega) (by omega) (by omega), Option.bind_some]
  dsimp only
  rw [rfour_ok ((w.fwd (n := 2) (by omega) (by omega)).fwd (by omega) (by omega)) (by omega), Option.bind_some]
  dsimp only
  rw [rfour_ok (((w.fwd (n := 2) (by omega) (by omega)).fwd (n := 2) (by omega) (by omega)).fwd (by omega) (by omega)) (by omega), Option.bind_some]
  dsimp only
  rw [rfour_ok ((((w.fwd (n := 2) (by omega) (by omega)).fwd (n := 2) (by omega) (by omega)).fwd (n := 4) (by omega) (by omega)).fwd (by omega) (by omega)) (by omega), Option.bind_some]
  dsimp only
  rw [rnum_ok (((((w.fwd (n := 2) (by omega) (by omega)).fwd (n := 2) (by omega) (by omega)).fwd (n := 4) (by omega) (by omega)).fwd (n := 4) (by omega) (by omega)).fwd (by omega) (by omega)) (by omega) (by omega) (by omega), Option.bind_some]
  rfl
def maskF (n : Int) : Bs := keepF [255, 255, 255, 255] n
theorem maskF_key : ∀ k : Fin 33, ([(u8of (IntKind.wrap .u8 (ishr .u32 (ishl .u32 4294967295 (IntKind.wrap .u64 (IntKind.wrap .i64 (32 - (k.val : Int))))) 24))), (u8of (IntKind.wrap .u8 (ishr .u32 (ishl .u32 4294967295 (IntKind.wrap .u64 (IntKind.wrap .i64 (32 - (k.val : Int))))) 16))), (u8of (IntKind.wrap .u8 (ishr .u32 (ishl .u32 4294967295 (IntKind.wrap .u64 (IntKind.wrap .i64 (32 - (k.val : Int))))) 8))), (u8of (IntKind.wrap .u8 (ishl .u32 4294967295 (IntKind.wrap .u64 (IntKind.wrap .i64 (32 - (k.val : Int)))))))] : Bs) = maskF k.val := by decide +kernel
theorem maskF_length (n : Int) : (maskF n).length = 4 := by unfold maskF; rw [keepF_length]; rfl
theorem fin33 {n : Int} (h : 0 ≤ n) (h' : n ≤ 32) : ∃ k : Fin 33, n = (k.val : Int) := ⟨⟨n.toNat, by omega⟩, by simp; omega⟩
theorem maskOf_is {n : Int} (h : 0 ≤ n) (h' : n ≤ 32) : g_mask_Of (n, ()) = some ((maskF n, true, ()), ()) := by
  obtain ⟨k, rfl⟩ := fin33 h h'
  rw [g_mask_Of_eq, ifn (by omega), ifn (by omega), if_pos (by rw [w64 (by omega) (by omega), wu64 (by omega) (by omega)]; omega), maskF_key k]
theorem maskOf_bad {n : Int} (h : n < 0 ∨ 32 < n) : g_mask_Of (n, ()) = some (([], false, ()), ()) := by
  rw [g_mask_Of_eq]
  by_cases h0 : n < 0
  · rw [ifd h0]
  · rw [ifn h0, ifd (by omega)]
def plenGo (s : Bs) : Nat → Nat → Int × Bool
  | 0, _ => (0, false)
  | d + 1, k => if maskF k = s then ((k : Int), true) else plenGo s d (k + 1)
def plenF (s : Bs) : Int × Bool := plenGo s 33 0
theorem plenGo_cases (s : Bs) : ∀ (d k : Nat), (∃ j : Nat, k ≤ j ∧ j < k + d ∧ plenGo s d k = ((j : Int), true) ∧ maskF j = s) ∨ (plenGo s d k = (0, false) ∧ ∀ j : Nat, k ≤ j → j < k + d → maskF j ≠ s)
  | 0, k => .inr ⟨rfl, fun j h1 h2 => by omega⟩
  | d + 1, k => by
    by_cases h : maskF k = s
    · exact .inl ⟨k, by omega, by omega, by rw [plenGo, if_pos h], h⟩
    · rcases plenGo_cases s d (k + 1) with ⟨j, h1, h2, h3, h4⟩ | ⟨h3, h4⟩
      · exact .inl ⟨j, by omega, by omega, by rw [plenGo, if_neg h, h3], h4⟩
      · refine .inr ⟨by rw [plenGo, if_neg h, h3], fun j h1 h2 => ?_⟩
        by_cases e : j = k
        · rw [e]; exact h
        · exact h4 j (by omega) (by omega)
theorem plenF_cases (s : Bs) : (∃ k : Fin 33, plenF s = ((k.val : Int), true) ∧ maskF k.val = s) ∨ (plenF s = (0, false) ∧ ∀ j : Nat, j < 33 → maskF j ≠ s) := by
  rcases plenGo_cases s 33 0 with ⟨j, _, h2, h3, h4⟩ | ⟨h3, h4⟩
  · exact .inl ⟨⟨j, by omega⟩, h3, h4⟩
  · exact .inr ⟨h3, fun j h => h4 j (by omega) (by omega)⟩
theorem plen_mask : ∀ k : Fin 33, plenF (maskF k.val) = ((k.val : Int), true) := by decide +kernel
theorem len32_pow : ∀ j : Fin 33, g_math_bits_Len32 (2 ^ j.val - 1, ()) = some (((j.val : Int), ()), ()) := by
  intro j
  rw [g_math_bits_Len32_eq]
  revert j
  decide +kernel
theorem u8wR (x : Int) : 0 ≤ IntKind.wrap .u8 x ∧ (IntKind.wrap .u8 x).toNat < 256 := by rw [wu8]; omega
theorem len32_any (x : Int) : ∃ r, g_math_bits_Len32 (x, ()) = some ((r, ()), ()) := by
  rw [g_math_bits_Len32_eq]
  split <;> split <;>
  · rw [if_pos (u8wR _).1, List.getElem?_eq_getElem (u8wR _).2, Option.bind_some]
    exact ⟨_, rfl⟩
theorem argKey : ∀ k : Fin 33, ibits .xor .u32 (4294967295) (ibits .or .u32 (ibits .or .u32 (ibits .or .u32 (ishl .u32 (IntKind.wrap .u32 ((((maskF k.val)[0]?.getD 0).toNat : Nat) : Int)) 24) (ishl .u32 (IntKind.wrap .u32 ((((maskF k.val)[1]?.getD 0).toNat : Nat) : Int)) 16)) (ishl .u32 (IntKind.wrap .u32 ((((maskF k.val)[2]?.getD 0).toNat : Nat) : Int)) 8)) (IntKind.wrap .u32 ((((maskF k.val)[3]?.getD 0).toNat : Nat) : Int))) = 2 ^ (32 - k.val) - 1 := by decide +kernel
theorem plen_is {s : Bs} (h : s.length = 4) : g_mask_Plen (s, ()) = some (((plenF s).1, (plenF s).2, ()), ()) := by
  rw [g_mask_Plen_eq, if_neg (by simp [h]), get_bt (i := 0) (by omega), Option.bind_some, get_bt (i := 1) (by omega), Option.bind_some, get_bt (i := 2) (by omega), Option.bind_some, get_bt (i := 3) (by omega), Option.bind_some]
  rcases plenF_cases s with ⟨k, e, rfl⟩ | ⟨e, hn⟩
  · rw [argKey k, g_math_bits_LeadingZeros32_eq]
    have := len32_pow ⟨32 - k.val, by omega⟩
    dsimp only at this
    rw [this, Option.bind_some, Option.bind_some]
    dsimp only
    have hk := k.isLt
    rw [w64 (by omega) (by omega), show (32 : Int) - ((32 - k.val : Nat) : Int) = k.val by omega, maskOf_is (by omega) (by omega), Option.bind_some]
    dsimp only
    rw [if_neg (by simp), e]
  · rw [g_math_bits_LeadingZeros32_eq]
    obtain ⟨r, hr⟩ := len32_any (ibits .xor .u32 (4294967295) (ibits .or .u32 (ibits .or .u32 (ibits .or .u32 (ishl .u32 (IntKind.wrap .u32 (((s[0]?.getD 0).toNat : Nat) : Int)) 24) (ishl .u32 (IntKind.wrap .u32 (((s[1]?.getD 0).toNat : Nat) : Int)) 16)) (ishl .u32 (IntKind.wrap .u32 (((s[2]?.getD 0).toNat : Nat) : Int)) 8)) (IntKind.wrap .u32 (((s[3]?.getD 0).toNat : Nat) : Int))))
    rw [hr, Option.bind_some, Option.bind_some]
    dsimp only
    generalize IntKind.wrap .i64 (32 - r) = x
    by_cases hx : x < 0 ∨ 32 < x
    · rw [maskOf_bad hx, Option.bind_some]
      dsimp only
      rw [if_pos (by cases s with | nil => simp at h | cons => rfl), e]
    · rw [maskOf_is (by omega) (by omega), Option.bind_some]
      dsimp only
      have : maskF x ≠ s := by
        have := hn x.toNat (by omega)
        rwa [show ((x.toNat : Nat) : Int) = x by omega] at this
      rw [if_pos (by simpa using this), e]
theorem plenF_ok {s : Bs} (h : (plenF s).2 = true) : 0 ≤ (plenF s).1 ∧ (plenF s).1 ≤ 32 ∧ maskF (plenF s).1 = s := by
  rcases plenF_cases s with ⟨k, e, hk⟩ | ⟨e, _⟩
  · rw [e]; have := k.isLt; exact ⟨by simp, by simp; omega, hk⟩
  · rw [e] at h; cases h
theorem plenF_maskF {n : Int} (h : 0 ≤ n) (h' : n ≤ 32) : plenF (maskF n) = (n, true) := by
  obtain ⟨k, rfl⟩ := fin33 h h'
  exact plen_mask k
end Go.VP
set_option linter.unusedVariables false
set_option linter.unusedSimpArgs false
set_option maxRecDepth 100000
namespace Go.VP
open Go Go.VI
def okR (m : Msg) : Prop := m.kind = 1 ∧ bareB m = true ∧ (m.cmd = 1 ∨ m.cmd = 2) ∧ (m.ver = 1 ∨ m.ver = 2) ∧ m.prefix_.length = 4 ∧ m.next.length = 4 ∧ (m.auth = [] ∨ (m.ver = 2 ∧ m.auth.length = 18)) ∧
  ((m.family = 0 ∧ m.cmd = 1 ∧ m.tag = 0 ∧ m.plen = 0 ∧ m.prefix_ = z4 ∧ m.next = z4 ∧ m.metric = 16) ∨
   (m.family = 2 ∧ 1 ≤ m.metric ∧ m.metric ≤ 16 ∧
     ((m.ver = 1 ∧ m.tag = 0 ∧ m.plen = 32 ∧ m.next = z4) ∨ (m.ver = 2 ∧ 0 ≤ m.tag ∧ m.tag ≤ 65535 ∧ 0 ≤ m.plen ∧ m.plen ≤ 32 ∧ cleanB m.prefix_ m.plen = true))))
open Classical in
noncomputable def rightR (m : Msg) : Bool := decide (okR m)
theorem rightR_true {m : Msg} : rightR m = true ↔ okR m := by unfold rightR; simp
structure RM (m : Msg) : Prop where
  tag : IntKind.has .i64 m.tag
  plen : IntKind.has .i64 m.plen
  list : m.list.length ≤ 1000000000
  subs : m.subs.length ≤ 1000000000
theorem dq_step {R : Type} {p : Prop} [Decidable p] {t f r : R} (h : p → t = r) (h' : ¬ p → f = r) : (if decide p = true then t else f) = r := by
  by_cases hp : p
  · rw [ifd hp]; exact h hp
  · rw [ifn hp]; exact h' hp
theorem nb_step {R : Type} {b : Bool} {t f r : R} (h : b = false → t = r) (h' : b = true → f = r) : (if (!b) = true then t else f) = r := by
  cases b
  · exact h rfl
  · exact h' rfl
theorem two_step {R : Type} {x a b : Int} {F V r : R} (h1 : ¬ (x = a ∨ x = b) → F = r) (h2 : (x = a ∨ x = b) → V = r) : (if (x != a) = true then (if (x != b) = true then F else V) else V) = r :=
  ne_step (fun ha => ne_step (fun hb => h1 (by omega)) (fun hb => h2 (.inr hb))) (fun ha => h2 (.inl ha))
theorem au_step {R : Type} {s : Bs} {v : Int} {F T r : R} (h1 : ¬ (s = [] ∨ (v ≠ 1 ∧ s.length = 18)) → F = r) (h2 : (s = [] ∨ (v ≠ 1 ∧ s.length = 18)) → T = r) : (if (!(s == ([] : Bs))) = true then (if (v == 1) = true then F else (if ((s.length : Int) != 18) = true then F else T)) else T) = r :=
  nq_step (fun ha => bq_step (fun hb => h1 (by grind)) (fun hb => ne_step (fun hc => h1 (by grind)) (fun hc => h2 (by grind)))) (fun ha => h2 (.inl ha))
theorem pright4 {a : Bs} {n : Int} (h : a.length = 4) (hn : IntKind.has .i64 n) : g_prefix_Right (a, n, ()) = some ((decide (0 ≤ n ∧ n ≤ 32) && cleanB a n, ()), ()) := by
  rw [g_prefix_Right_eq, if_pos (by simp [h]), clean_is (by omega) hn, Option.bind_some]
  dsimp only
  refine dq_step (fun h0 => ?_) (fun h0 => ?_)
  · rw [w64 (by omega) (by omega)]
    refine dq_step (fun h1 => ?_) (fun h1 => ?_)
    · rw [decide_eq_true (by omega)]; rfl
    · rw [decide_eq_false (by omega)]; rfl
  · rw [decide_eq_false (by omega)]; rfl
theorem ripRight_is {m : Msg} (g : RM m) : g_rip_Right (m, ()) = some ((rightR m, ()), ()) := by
  have no : ¬ okR m → (some ((false, ()), ()) : Option ((Bool × Unit) × Unit)) = some ((rightR m, ()), ()) := fun h => by
    have : rightR m = false := by cases e : rightR m with | false => rfl | true => exact absurd (rightR_true.1 e) h
    rw [this]
  have yes : ∀ {b : Bool}, (b = true ↔ okR m) → (some ((b, ()), ()) : Option ((Bool × Unit) × Unit)) = some ((rightR m, ()), ()) := fun {b} h => by
    have : b = rightR m := by rw [Bool.eq_iff_iff, h, rightR_true]
    rw [this]
  rw [g_rip_Right_eq]
  refine ne_step (fun hk => no fun h => hk h.1) (fun hk => ?_)
  rw [bare_is, Option.bind_some]
  refine nb_step (fun hb => no fun h => by have := h.2.1; dsimp only at hb; rw [hb] at this; cases this) (fun hb => ?_)
  dsimp only at hb
  rw [g_rip_four_eq, Option.bind_some]
  refine nb_step (fun hp => no fun h => by have := h.2.2.2.2.1; dsimp only at hp; simp at hp; omega) (fun hp => ?_)
  have hp4 : m.prefix_.length = 4 := by simp at hp; omega
  rw [g_rip_four_eq, Option.bind_some]
  refine nb_step (fun hp => no fun h => by have := h.2.2.2.2.2.1; dsimp only at hp; simp at hp; omega) (fun hn => ?_)
  have hn4 : m.next.length = 4 := by simp at hn; omega
  refine two_step (fun hc => no fun h => hc h.2.2.1) (fun hc => ?_)
  refine two_step (fun hv => no fun h => hv h.2.2.2.1) (fun hv => ?_)
  refine au_step (fun ha => no fun h => ha (by have := h.2.2.2.2.2.2.1; grind)) (fun ha => ?_)
  have ha' : m.auth = [] ∨ (m.ver = 2 ∧ m.auth.length = 18) := by grind
  have z8 := zero8 hp4 hn4
  have zn := zero4 hn4
  refine bq_step (fun f0 => ?_) (fun f0 => ?_)
  · refine bq_step (fun c1 => ?_) (fun c1 => no (by grind [okR]))
    refine bq_step (fun t0 => ?_) (fun t0 => no (by grind [okR]))
    refine bq_step (fun p0 => ?_) (fun t0 => no (by grind [okR]))
    refine bq_step (fun m0 => ?_) (fun t0 => no (by grind [okR]))
    rw [if_pos (maxB_of (by omega)), zero_is (by simp; omega), Option.bind_some]
    exact yes (by rw [z8]; grind [okR])
  · refine ne_step (fun f2 => no (by grind [okR])) (fun f2 => ?_)
    refine dq_step (fun h1 => no (by grind [okR])) (fun h1 => ?_)
    refine dq_step (fun h2 => no (by grind [okR])) (fun h2 => ?_)
    refine bq_step (fun v1 => ?_) (fun v1 => ?_)
    · refine bq_step (fun t0 => ?_) (fun t0 => no (by grind [okR]))
      refine bq_step (fun p0 => ?_) (fun t0 => no (by grind [okR]))
      rw [zero_is (by omega), Option.bind_some]
      exact yes (by rw [zn]; grind [okR])
    · have ft := fits_is (k := 2) g.tag (by omega) (by omega)
      rw [show ((2 : Nat) : Int) = 2 from rfl] at ft
      rw [ft, Option.bind_some]
      dsimp only
      have hf : fitsB m.tag 2 = true ↔ 0 ≤ m.tag ∧ m.tag ≤ 65535 := by unfold fitsB; rw [decide_eq_true_eq]; omega
      cases hfb : fitsB m.tag 2 with
      | false => rw [iff_]; exact no (fun h => by
        have : ¬ (0 ≤ m.tag ∧ m.tag ≤ 65535) := by rw [← hf, hfb]; simp
        grind [okR])
      | true =>
        have := hf.1 hfb
        rw [ift, pright4 hp4 g.plen, Option.bind_some]
        exact yes (by rw [Bool.and_eq_true, decide_eq_true_eq]; grind [okR])
end Go.VP
set_option linter.unusedVariables false
set_option linter.unusedSimpArgs false
set_option maxRecDepth 100000
namespace Go.VP
open Go Go.VI
abbrev Ent := S_api_Entry
def routeM (cmd ver : Int) (says : Bs) (e : Ent) : Msg := ⟨1, cmd, ver, says, e.family, 0, e.addr, (if e.family = 0 then 0 else if ver = 1 then 32 else (plenF e.mask).1), e.tag, e.next, e.metric, [], 0, 0, 0, 0, 0, 0, 0, [], [], [], 0, [], []⟩
open Classical in
noncomputable def errR (cmd ver : Int) (says : Bs) (alone : Bool) (e : Ent) : Int :=
  if e.family = 0 then (if alone = true ∧ e.mask = z4 ∧ okR (routeM cmd ver says e) then 0 else 7)
  else if e.family ≠ 2 then 4
  else if ver = 1 then (if e.tag ≠ 0 ∨ e.mask ≠ z4 ∨ e.next ≠ z4 then 5 else if e.metric < 1 ∨ 16 < e.metric then 6 else 0)
  else if ¬ ((plenF e.mask).2 = true ∧ cleanB e.addr (plenF e.mask).1 = true) then 7
  else if e.metric < 1 ∨ 16 < e.metric then 6 else 0
theorem lf {x : Msg} {v E : Int} {M : Msg} {R : Type} {S : R} (h : E = v) (h0 : v ≠ 0) : ∃ m', (some ((x, v, ()), S) : Option ((Msg × Int × Unit) × R)) = some ((m', E, ()), S) ∧ (E = 0 → m' = M) := ⟨x, by rw [h], fun e => absurd (h.symm.trans e) h0⟩
theorem lf0 {x : Msg} {E : Int} {M : Msg} {R : Type} {S : R} (hx : x = M) (h : E = 0) : ∃ m', (some ((x, 0, ()), S) : Option ((Msg × Int × Unit) × R)) = some ((m', E, ()), S) ∧ (E = 0 → m' = M) := ⟨M, by rw [h, hx], fun _ => rfl⟩
structure EntOk (e : Ent) : Prop where
  fam : 0 ≤ e.family ∧ e.family ≤ 65535
  tag : 0 ≤ e.tag ∧ e.tag ≤ 65535
  addr : e.addr.length = 4
  mask : e.mask.length = 4
  next : e.next.length = 4
  metric : 0 ≤ e.metric ∧ e.metric ≤ 4294967295
theorem cut_len {s : Bs} {p n : Nat} (h : p + n ≤ s.length) : (cut_ s p n).length = n := by
  have := cut_length (s := s) (p := p) (n := n) (by omega) (by omega) (by omega)
  omega
theorem entF_ok {s : Bs} (h : s.length = 20) : EntOk (entF s) := by
  have h2 : ∀ p : Nat, p + 2 ≤ 20 → 0 ≤ num (cut_ s p 2) ∧ num (cut_ s p 2) ≤ 65535 := fun p hp => by
    have := num_rng (cut_ s p 2)
    have hl : (cut_ s p 2).length = 2 := cut_len (n := 2) (by omega)
    rw [hl] at this; omega
  have h4 := num_rng (cut_ s 16 4)
  have hl : (cut_ s 16 4).length = 4 := cut_len (p := 16) (n := 4) (by omega)
  rw [hl] at h4
  exact ⟨h2 0 (by omega), h2 2 (by omega), cut_len (p := 4) (n := 4) (by omega), cut_len (p := 8) (n := 4) (by omega), cut_len (p := 12) (n := 4) (by omega), by show 0 ≤ num (cut_ s 16 4) ∧ _; exact ⟨h4.1, by show num (cut_ s 16 4) ≤ _; omega⟩⟩
theorem routeM_rm {cmd ver : Int} {says : Bs} {e : Ent} (h : EntOk e) : RM (routeM cmd ver says e) := by
  have h1 := h.tag
  refine ⟨has64.2 (by show _ ≤ e.tag ∧ e.tag ≤ _; omega), ?_, by simp [routeM], by simp [routeM]⟩
  rw [has64]
  show _ ≤ (if e.family = 0 then (0 : Int) else if ver = 1 then 32 else (plenF e.mask).1) ∧ (if e.family = 0 then (0 : Int) else if ver = 1 then 32 else (plenF e.mask).1) ≤ _
  rcases plenF_cases e.mask with ⟨k, hk, _⟩ | ⟨hk, _⟩
  · rw [hk]; have := k.isLt; split
    · omega
    · split <;> simp <;> omega
  · rw [hk]; split
    · omega
    · split <;> simp
theorem route_is {cmd ver : Int} {says : Bs} {alone : Bool} {e : Ent} (h : EntOk e) :
    ∃ m', g_rip_reader_route (⟨cmd, ver, says, alone⟩, e, ()) = some ((m', errR cmd ver says alone e, ()), ((⟨cmd, ver, says, alone⟩ : S_rip_reader), ())) ∧ (errR cmd ver says alone e = 0 → m' = routeM cmd ver says e) := by
  have zm := zero4 h.mask
  have zz := zero8 h.mask h.next
  have rm := routeM_rm (cmd := cmd) (ver := ver) (says := says) h
  rw [g_rip_reader_route_eq]
  dsimp only
  by_cases f0 : e.family = 0
  · rw [if_pos (by simp [f0])]
    cases alone with
    | false => rw [ifnf]; exact lf (v := 7) (by unfold errR; rw [if_pos f0, if_neg (by simp)]) (by decide)
    | true =>
      rw [ifnt, zero_is (by have := h.mask; omega), Option.bind_some]
      dsimp only
      cases hz : zeroB e.mask with
      | false =>
        rw [ifnf]; exact lf (v := 7) (by unfold errR; rw [if_pos f0, if_neg (by rw [← zm, hz]; simp)]) (by decide)
      | true =>
        have hm := zm.1 hz
        have er : (⟨1, cmd, ver, says, e.family, 0, e.addr, 0, e.tag, e.next, e.metric, [], 0, 0, 0, 0, 0, 0, 0, [], [], [], 0, [], []⟩ : Msg) = routeM cmd ver says e := by unfold routeM; rw [if_pos f0]
        rw [ifnt, er, ripRight_is rm, Option.bind_some]
        dsimp only
        by_cases ho : okR (routeM cmd ver says e)
        · rw [rightR_true.2 ho, ifnt]
          exact lf0 rfl (by unfold errR; rw [if_pos f0, if_pos ⟨rfl, hm, ho⟩])
        · have : rightR (routeM cmd ver says e) = false := by cases e' : rightR (routeM cmd ver says e) with | false => rfl | true => exact absurd (rightR_true.1 e') ho
          rw [this, ifnf]
          exact lf (v := 7) (by unfold errR; rw [if_pos f0, if_neg (fun h => ho h.2.2)]) (by decide)
  · rw [if_neg (by simp [f0])]
    by_cases f2 : e.family = 2
    · rw [if_neg (by simp [f2])]
      by_cases v1 : ver = 1
      · subst v1
        rw [if_pos (by rfl)]
        by_cases t0 : e.tag = 0
        · rw [if_neg (by simp [t0]), if_pos (maxB_of (by have := h.mask; have := h.next; omega)), zero_is (by have := h.mask; have := h.next; simp; omega), Option.bind_some]
          dsimp only
          cases hz : zeroB (e.mask ++ e.next) with
          | false =>
            rw [ifnf]
            refine lf (v := 5) ?_ (by decide)
            unfold errR; rw [if_neg f0, if_neg (by omega), if_pos rfl, if_pos]
            by_cases hm : e.mask = z4
            · refine .inr (.inr fun hn => ?_); have := zz.2 ⟨hm, hn⟩; rw [hz] at this; cases this
            · exact .inr (.inl hm)
          | true =>
            have hm := zz.1 hz
            rw [ifnt]
            by_cases m1 : e.metric < 1
            · rw [ifd m1]; exact lf (v := 6) (by unfold errR; rw [if_neg f0, if_neg (by omega), if_pos rfl, if_neg (by grind), if_pos (.inl m1)]) (by decide)
            · rw [ifn m1]
              by_cases m2 : 16 < e.metric
              · rw [ifd m2]; exact lf (v := 6) (by unfold errR; rw [if_neg f0, if_neg (by omega), if_pos rfl, if_neg (by grind), if_pos (.inr m2)]) (by decide)
              · rw [ifn m2]; exact lf0 (by unfold routeM; rw [if_neg f0, if_pos rfl]) (by unfold errR; rw [if_neg f0, if_neg (by omega), if_pos rfl, if_neg (by grind), if_neg (by omega)])
        · rw [if_pos (by simp [t0])]
          exact lf (v := 5) (by unfold errR; rw [if_neg f0, if_neg (by omega), if_pos rfl, if_pos (.inl t0)]) (by decide)
      · rw [if_neg (by simp [v1]), plen_is h.mask, Option.bind_some]
        dsimp only
        cases hp : (plenF e.mask).2 with
        | false =>
          rw [ifnf]
          exact lf (v := 7) (by unfold errR; rw [if_neg f0, if_neg (by omega), if_neg v1, if_pos (by rw [hp]; simp)]) (by decide)
        | true =>
          have pr := plenF_ok hp
          rw [ifnt, pright4 h.addr (has64.2 (by omega)), Option.bind_some]
          dsimp only
          rw [decide_eq_true (show 0 ≤ (plenF e.mask).1 ∧ (plenF e.mask).1 ≤ 32 by omega), Bool.true_and]
          cases hc : cleanB e.addr (plenF e.mask).1 with
          | false =>
            rw [ifnf]
            exact lf (v := 7) (by unfold errR; rw [if_neg f0, if_neg (by omega), if_neg v1, if_pos (by rw [hc]; simp)]) (by decide)
          | true =>
            rw [ifnt]
            by_cases m1 : e.metric < 1
            · rw [ifd m1]; exact lf (v := 6) (by unfold errR; rw [if_neg f0, if_neg (by omega), if_neg v1, if_neg (by simp [hp, hc]), if_pos (.inl m1)]) (by decide)
            · rw [ifn m1]
              by_cases m2 : 16 < e.metric
              · rw [ifd m2]; exact lf (v := 6) (by unfold errR; rw [if_neg f0, if_neg (by omega), if_neg v1, if_neg (by simp [hp, hc]), if_pos (.inr m2)]) (by decide)
              · rw [ifn m2]; exact lf0 (by unfold routeM; rw [if_neg f0, if_neg v1]) (by unfold errR; rw [if_neg f0, if_neg (by omega), if_neg v1, if_neg (by simp [hp, hc]), if_neg (by omega)])
    · rw [if_pos (by simp [f2])]
      exact lf (v := 4) (by unfold errR; rw [if_neg f0, if_pos f2]) (by decide)
end Go.VP
