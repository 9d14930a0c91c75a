/- Requests come back of their TLVs. -/
import Derived.Test.YtabekdfijifnfaaQPBase
import Derived.Test.YtabekdfijifnfaaQPCur
import Derived.Test.YtabekdfijifnfaaQPOct
import Derived.Test.YtabekdfijifnfaaQPTlv
import Derived.Test.YtabekdfijifnfaaQPSub
import Derived.Test.YtabekdfijifnfaaQPMsg
import Derived.Test.YtabekdfijifnfaaQPAddr
import Derived.Test.YtabekdfijifnfaaQPBits
import Derived.Test.YtabekdfijifnfaaQPField
import Derived.Test.YtabekdfijifnfaaQPFieldG
import Derived.Test.YtabekdfijifnfaaQPFieldB
import Derived.Test.YtabekdfijifnfaaQPRoute
import Derived.Test.YtabekdfijifnfaaQPRouteG
set_option linter.unusedVariables false
set_option linter.unusedSimpArgs false
set_option maxRecDepth 100000
namespace Go.VP
open Go Go.VI
theorem maskN_idem (b k : Nat) : maskN (maskN b k) k = maskN b k := by
  unfold maskN; rw [Nat.mul_div_cancel _ (Nat.pow_pos (by decide))]
theorem maskB_idem (b : UInt8) (k : Int) : maskB (maskB b k) k = maskB b k := by
  apply UInt8.toNat.inj; rw [maskB_toNat, maskB_toNat, maskN_idem]
theorem keepF_idem : ∀ (s : Bs) (n : Int), keepF (keepF s n) n = keepF s n
  | [], _ => rfl
  | b :: r, n => by simp only [keepF, maskB_idem, keepF_idem r]
theorem linkP_len : linkP.length = 8 := rfl
theorem keep_link {x : Bs} {n : Int} (h : 64 ≤ n) (hx : x.length = 8) : linkB (keepF (linkP ++ x) n) = true := by
  rw [keepF_append, keepF_all (s := linkP) (by rw [linkP_len]; omega)]
  exact link_long (by rw [keepF_length]; exact hx)
theorem wholeF_len {ae plen : Int} {b : Bs} (hae : 0 ≤ ae ∧ ae < 4) (hb : (b.length : Int) ≤ szA ae - baseA ae) : ((wholeF ae b plen).length : Int) = szA ae := by
  unfold wholeF
  rw [keepF_length]
  rcases ae_cases hae with rfl | rfl | rfl | rfl
  · have : (b.length : Int) ≤ 0 - 0 := hb
    rw [if_neg (by decide), fillF_length]; show ((max b.length (0 : Int).toNat : Nat) : Int) = 0; omega
  · have : (b.length : Int) ≤ 4 - 0 := hb
    rw [if_neg (by decide), fillF_length]; show ((max b.length (4 : Int).toNat : Nat) : Int) = 4; omega
  · have : (b.length : Int) ≤ 16 - 0 := hb
    rw [if_neg (by decide), fillF_length]; show ((max b.length (16 : Int).toNat : Nat) : Int) = 16; omega
  · have : (b.length : Int) ≤ 16 - 8 := hb
    rw [if_pos rfl, List.length_append, fillF_length, linkP_len]; show ((8 + max b.length (8 : Int).toNat : Nat) : Int) = 16; omega
theorem wholeF_link {plen : Int} {b : Bs} (h : 64 ≤ plen) (hb : b.length ≤ 8) : linkB (wholeF 3 b plen) = true := by
  unfold wholeF
  rw [if_pos rfl]
  exact keep_link h (by rw [fillF_length]; show max b.length 8 = 8; omega)
theorem clean_parts {a : Bs} {n : Int} (h : keepF a n = a) (h0 : 0 ≤ n) : a = a.take (leastF n).toNat ++ List.replicate (a.length - (leastF n).toNat) 0 ∧ cutF a n = a.take (leastF n).toNat := by
  have hl : 8 * leastF n ≥ n := by unfold leastF; rw [if_neg (by omega)]; omega
  have hn := leastF_nn n
  have e1 : keepF (a.take (leastF n).toNat) n = a.take (leastF n).toNat := by rw [← keepF_take, h]
  refine ⟨?_, e1⟩
  by_cases hs : (leastF n).toNat ≤ a.length
  · have e2 : keepF (a.drop (leastF n).toNat) (n - 8 * (a.take (leastF n).toNat).length) = a.drop (leastF n).toNat := by
      have := h
      conv at this => lhs; rw [← List.take_append_drop (leastF n).toNat a]
      rw [keepF_append, e1] at this
      conv at this => rhs; rw [← List.take_append_drop (leastF n).toNat a]
      exact List.append_cancel_left this
    rw [keepF_none (by rw [List.length_take]; omega), List.length_drop] at e2
    conv => lhs; rw [← List.take_append_drop (leastF n).toNat a, ← e2]
  · rw [List.take_of_length_le (by omega), show a.length - (leastF n).toNat = 0 by omega]; simp
theorem wholeF_back {m : Msg} (r : RouteR m) : wholeF m.ae (bytesP m) m.plen = m.prefix_ := by
  obtain ⟨l1, l2, l3, l4, l5, l6⟩ := least_base r.ae r.plen
  obtain ⟨p1, p2⟩ := clean_parts r.clean l4
  have hlen := r.len
  have key : (if m.ae = 3 then linkP ++ fillF (bytesP m) 8 else fillF (bytesP m) (szA m.ae)) = m.prefix_ := by
    unfold bytesP
    rw [p2]
    by_cases h3 : m.ae = 3
    · have hb := r.link h3
      have h16 := linkB_len hb
      have e8 : baseA m.ae = 8 := by rw [h3]; rfl
      rw [e8] at l2
      rw [if_pos h3, e8, ← h16.2]
      have tl : (m.prefix_.take (leastF m.plen).toNat).length = (leastF m.plen).toNat := by rw [List.length_take]; omega
      have e1 : m.prefix_.take 8 = (m.prefix_.take (leastF m.plen).toNat).take 8 := by rw [List.take_take]; congr 1; omega
      unfold fillF
      rw [e1, ← List.append_assoc]
      show List.take 8 (m.prefix_.take (leastF m.plen).toNat) ++ List.drop 8 (m.prefix_.take (leastF m.plen).toNat) ++ List.replicate ((8 : Int).toNat - (List.drop 8 (m.prefix_.take (leastF m.plen).toNat)).length) 0 = _
      rw [List.take_append_drop, List.length_drop, tl]
      conv => rhs; rw [p1]
      congr 2
      rw [h16.1]
      show 8 - ((leastF m.plen).toNat - 8) = 16 - (leastF m.plen).toNat
      omega
    · have e0 : baseA m.ae = 0 := by
        rcases ae_cases r.ae with h | h | h | h
        · rw [h]; rfl
        · rw [h]; rfl
        · rw [h]; rfl
        · exact absurd h h3
      rw [if_neg h3, e0]
      unfold fillF
      have tl : (m.prefix_.take (leastF m.plen).toNat).length = (leastF m.plen).toNat := by rw [List.length_take]; omega
      show List.drop 0 (m.prefix_.take (leastF m.plen).toNat) ++ List.replicate ((szA m.ae).toNat - (List.drop 0 (m.prefix_.take (leastF m.plen).toNat)).length) 0 = _
      rw [List.drop_zero, tl]
      conv => rhs; rw [p1]
      congr 2
      omega
  unfold wholeF
  rw [key, r.clean]
theorem rest_eq {m : Msg} (r : RouteR m) : greatB m.ae m.plen = false ∧ restN m.ae m.plen 0 = (bytesP m).length := by
  have := r.cut.2
  refine ⟨by unfold greatB; rw [decide_eq_true r.plen]; rfl, ?_⟩
  unfold restN; omega
theorem routeG_back {m : Msg} (r : RouteR m) : routeG (if m.kind = 13 then 10 else 9) (headF m ++ encS m.subs) = (m, true, 0) := by
  obtain ⟨hr, hs⟩ := rightB_split r.subs
  have hg := getS_encS hr hs
  have hbare := r.bare
  obtain ⟨l1, l2, l3, l4, l5, l6⟩ := least_base r.ae r.plen
  obtain ⟨q1, q2⟩ := rest_eq r
  have eqm : ∀ x, bareOf m = some x → x = m := fun x h => by rw [bareB, h] at hbare; exact eqB_true.1 hbare
  have uA : ((u8of m.ae).toNat : Int) = m.ae := by rw [u8of_int, if_pos r.ae.1]; have := r.ae; omega
  have uP : ((u8of m.plen).toNat : Int) = m.plen := by rw [u8of_int, if_pos l4]; omega
  rcases r.kinds with hk | ⟨hk, ha, hq, hh, hi⟩
  · have hx := eqm _ (by unfold bareOf; rw [if_neg (by omega), if_neg (by omega), if_neg (by omega), if_neg (by omega), if_neg (by omega), if_neg (by omega), if_neg (by omega), if_neg (by omega), if_neg (by omega), if_neg (by omega), if_neg (by omega), if_pos hk])
    have eh : headF m = u8of m.ae :: u8of m.plen :: bytesP m := by unfold headF; rw [if_neg (by omega)]
    rw [if_neg (show ¬ m.kind = 13 by omega), eh]
    generalize hD : (u8of m.ae :: u8of m.plen :: bytesP m) ++ encS m.subs = D
    have hlen : D.length = 2 + (bytesP m).length + (encS m.subs).length := by rw [← hD]; simp; omega
    have t0 : bt D 0 = m.ae := by rw [← hD]; exact uA
    have t1 : bt D 1 = m.plen := by rw [← hD]; exact uP
    have hp : preF D 2 m.ae m.plen 0 = (bytesP m, 0) := by
      rw [preF_fine q1 (by omega) (by omega), q2]
      have : cut_ D 2 ((bytesP m).length : Int) = bytesP m := by
        rw [← hD]
        show cut_ ([u8of m.ae, u8of m.plen] ++ (bytesP m ++ encS m.subs)) 2 _ = _
        rw [cutR (k := 2) rfl (by omega) (by omega)]
        exact cutL rfl
      rw [this]
    have hdr : D.drop (2 + restN m.ae m.plen 0).toNat = encS m.subs := by
      rw [← hD, q2]
      exact List.drop_left' (by simp; omega)
    unfold routeG
    rw [if_neg (show ¬ (9 : Int) = 10 by decide), if_neg (by omega), t0, t1, if_neg (by have := r.ae; omega)]
    dsimp only
    rw [hp, hdr, hg]
    dsimp only
    rw [if_neg (show ¬ (0 : Int) ≠ 0 by decide), if_neg (show ¬ ((0 : Int) ≠ 0 ∨ true = false) by decide), if_neg (show ¬ (9 : Int) = 10 by decide), wholeF_back r]
    rw [hk] at hx
    rw [hx]
  · have hx := eqm _ (by unfold bareOf; rw [if_neg (by omega), if_neg (by omega), if_neg (by omega), if_neg (by omega), if_neg (by omega), if_neg (by omega), if_neg (by omega), if_neg (by omega), if_neg (by omega), if_neg (by omega), if_neg (by omega), if_neg (by omega), if_pos hk])
    have uH : ((u8of m.hops).toNat : Int) = m.hops := by rw [u8of_int, if_pos (by omega)]; omega
    have eh : headF m = u8of m.ae :: u8of m.plen :: (be 2 m.seq ++ (u8of m.hops :: 0 :: (m.id ++ bytesP m))) := by unfold headF; rw [if_pos hk]
    rw [if_pos hk, eh]
    generalize hD : (u8of m.ae :: u8of m.plen :: (be 2 m.seq ++ (u8of m.hops :: 0 :: (m.id ++ bytesP m)))) ++ encS m.subs = D
    have hlen : D.length = 14 + (bytesP m).length + (encS m.subs).length := by rw [← hD]; simp [be_length]; omega
    have t0 : bt D 0 = m.ae := by rw [← hD]; exact uA
    have t1 : bt D 1 = m.plen := by rw [← hD]; exact uP
    have t4 : bt D 4 = m.hops := by rw [← hD]; exact uH
    have e6 : D = [u8of m.ae, u8of m.plen] ++ (be 2 m.seq ++ ([u8of m.hops, 0] ++ (m.id ++ (bytesP m ++ encS m.subs)))) := by rw [← hD]; simp
    have cs : cut_ D 2 2 = be 2 m.seq := by
      rw [e6, cutR (k := 2) rfl (by omega) (by omega)]; exact cutL rfl
    have ci : cut_ D 6 8 = m.id := by
      rw [e6, cutR (k := 2) rfl (by omega) (by omega), cutR (k := 2) rfl (by omega) (by omega), cutR (k := 2) rfl (by omega) (by omega)]; exact cutL (by omega)
    have hp : preF D 14 m.ae m.plen 0 = (bytesP m, 0) := by
      rw [preF_fine q1 (by omega) (by omega), q2]
      have : cut_ D 14 ((bytesP m).length : Int) = bytesP m := by
        rw [e6, cutR (k := 2) rfl (by omega) (by omega), cutR (k := 2) rfl (by omega) (by omega), cutR (k := 2) rfl (by omega) (by omega), cutR (k := 8) hi (by omega) (by omega)]; exact cutL rfl
      rw [this]
    have hdr : D.drop (14 + restN m.ae m.plen 0).toNat = encS m.subs := by
      rw [← hD, q2]
      exact List.drop_left' (by simp [be_length]; omega)
    unfold routeG
    rw [if_pos (show (10 : Int) = 10 from rfl), if_neg (by omega), t0, t1, t4, if_neg (by have := r.ae; omega)]
    dsimp only
    rw [hp, hdr, hg, cs, ci, num_be2 hq]
    dsimp only
    rw [if_neg (show ¬ (0 : Int) ≠ 0 by decide), if_neg (show ¬ ((0 : Int) ≠ 0 ∨ true = false) by decide), if_pos (show (10 : Int) = 10 from rfl), if_neg (show ¬ (m.ae = 0 ∨ m.hops = 0) by omega), wholeF_back r]
    rw [hk] at hx
    rw [hx]
theorem routeG_cases {ty : Int} {d : Bs} (ht : ty = 9 ∨ ty = 10) (hd : d.length ≤ 300) :
    (∃ m, routeG ty d = (m, true, 0) ∧ RouteR m ∧ GoodM m ∧ (headF m ++ encS m.subs).length ≤ d.length ∧ m.kind = ty + 3) ∨ (∃ e, routeG ty d = (msg0, false, e)) := by
  have b0 := bt_rng d 0
  have b1 := bt_rng d 1
  have b4 := bt_rng d 4
  unfold routeG
  by_cases hl : (d.length : Int) < (if ty = 10 then 14 else 2)
  · rw [if_pos hl]; exact .inr ⟨_, rfl⟩
  rw [if_neg hl]
  by_cases ha : 3 < bt d 0
  · rw [if_pos ha]; exact .inr ⟨_, rfl⟩
  rw [if_neg ha]
  have hae : 0 ≤ bt d 0 ∧ bt d 0 < 4 := by omega
  dsimp only
  have hp0 : (0 : Int) ≤ (if ty = 10 then 14 else 2) ∧ (if ty = 10 then (14 : Int) else 2) ≤ 14 := by split <;> omega
  generalize hP : (if ty = 10 then (14 : Int) else 2) = P at *
  by_cases hb : (preF d P (bt d 0) (bt d 1) 0).2 ≠ 0
  · rw [if_pos hb]; exact .inr ⟨_, rfl⟩
  rw [if_neg hb]
  have hb : (preF d P (bt d 0) (bt d 1) 0).2 = 0 := by simpa using hb
  obtain ⟨f1, f2, f3, f4⟩ := preF_ok hae hp0.1 hb
  have f5 := restN_len hae f2
  have hpl : lowA (bt d 0) ≤ bt d 1 ∧ bt d 1 ≤ highA (bt d 0) := by unfold greatB at f2; simpa using f2
  obtain ⟨l1, l2, l3, l4, l5, l6⟩ := least_base hae hpl
  have hrn : restN (bt d 0) (bt d 1) 0 = leastF (bt d 1) - baseA (bt d 0) := by unfold restN; omega
  rcases getS_cases (d.drop (P + restN (bt d 0) (bt d 1) 0).toNat) with ⟨l, hg, hA, hS, hL, hN⟩ | ⟨l, hg⟩ | ⟨e, hg, _⟩
  · rw [hg]
    dsimp only
    rw [if_neg (show ¬ ((0 : Int) ≠ 0 ∨ true = false) by decide)]
    have wl := wholeF_len (plen := bt d 1) (b := (preF d P (bt d 0) (bt d 1) 0).1) hae (by omega)
    have wc : keepF (wholeF (bt d 0) (preF d P (bt d 0) (bt d 1) 0).1 (bt d 1)) (bt d 1) = wholeF (bt d 0) (preF d P (bt d 0) (bt d 1) 0).1 (bt d 1) := keepF_idem _ _
    have wk : bt d 0 = 3 → linkB (wholeF (bt d 0) (preF d P (bt d 0) (bt d 1) 0).1 (bt d 1)) = true := fun h => by
      rw [h] at hpl ⊢
      have h8 := f5.2.2.2.1 h
      rw [h] at f4 h8
      exact wholeF_link hpl.1 (by omega)
    have bare : ∀ m : Msg, bareOf m = some m → bareB m = true := fun m h => by rw [bareB, h]; exact eqB_refl m
    have sub2 := sub_len (l := l)
    have hle := encS_length l
    have n1000 : ([] : List Dest).length ≤ 1000 := by decide
    have e0 : ([] : Bs).length ≤ 400 := by decide
    have has0 : IntKind.has .i64 0 := has64.2 (by omega)
    have drl : ((d.drop (P + restN (bt d 0) (bt d 1) 0).toNat).length : Int) = d.length - (P + restN (bt d 0) (bt d 1) 0) := by rw [List.length_drop]; omega
    rcases ht with rfl | rfl
    · rw [if_neg (show ¬ (9 : Int) = 10 by decide)] at hP ⊢
      subst hP
      have r : RouteR ⟨12, 0, 0, [], 0, bt d 0, wholeF (bt d 0) (preF d 2 (bt d 0) (bt d 1) 0).1 (bt d 1), bt d 1, 0, [], 0, [], 0, 0, 0, 0, 0, 0, 0, [], [], [], 0, [], l⟩ := ⟨bare _ rfl, rightB_of hA hS, hae, wl, hpl, wc, wk, rfl⟩
      refine .inl ⟨_, rfl, r, ⟨⟨n1000, by dsimp only; omega, e0, by dsimp only; omega, e0, e0, e0, e0, e0, (fun d h => by cases h), hA.few⟩, has0, has0, has0, has0, has64.2 (by dsimp only; omega), has0, has64.2 (by dsimp only; omega), has64.2 (by dsimp only; omega), has0⟩, ?_, rfl⟩
      have hc := r.cut.2
      dsimp only at hc ⊢
      unfold headF
      rw [if_neg (show ¬ (12 : Int) = 13 by decide)]
      simp only [List.length_append, List.length_cons]
      omega
    · rw [if_pos (show (10 : Int) = 10 from rfl)] at hP ⊢
      subst hP
      split
      · exact .inr ⟨_, rfl⟩
      · rename_i h04
        have hq := num_cut_rng (d := d) (p := 2) (by omega) (by omega)
        have hi := cut_length (s := d) (p := 6) (n := 8) (by omega) (by omega) (by omega)
        have kr : kindR ⟨13, 0, 0, [], 0, bt d 0, wholeF (bt d 0) (preF d 14 (bt d 0) (bt d 1) 0).1 (bt d 1), bt d 1, 0, [], 0, cut_ d 6 8, num (cut_ d 2 2), 0, 0, 0, bt d 4, 0, 0, [], [], [], 0, [], l⟩ = true := by
          unfold kindR
          rw [if_neg (show ¬ (13 : Int) = 12 by decide), if_pos rfl]
          simp only [Bool.and_eq_true, decide_eq_true_eq, fitsB2]
          exact ⟨by omega, hq, by omega, by omega⟩
        have r : RouteR ⟨13, 0, 0, [], 0, bt d 0, wholeF (bt d 0) (preF d 14 (bt d 0) (bt d 1) 0).1 (bt d 1), bt d 1, 0, [], 0, cut_ d 6 8, num (cut_ d 2 2), 0, 0, 0, bt d 4, 0, 0, [], [], [], 0, [], l⟩ := ⟨bare _ rfl, rightB_of hA hS, hae, wl, hpl, wc, wk, kr⟩
        refine .inl ⟨_, rfl, r, ⟨⟨n1000, by dsimp only; omega, e0, by dsimp only; omega, e0, by dsimp only; omega, e0, e0, e0, (fun d h => by cases h), hA.few⟩, has0, has0, has64.2 (by dsimp only; omega), has0, has64.2 (by dsimp only; omega), has0, has64.2 (by dsimp only; omega), has64.2 (by dsimp only; omega), has64.2 (by dsimp only; omega)⟩, ?_, rfl⟩
        have hc := r.cut.2
        dsimp only at hc ⊢
        unfold headF
        rw [if_pos rfl]
        simp only [List.length_append, List.length_cons, be_length]
        omega
  · rw [hg]; exact .inr ⟨0, rfl⟩
  · rw [hg]
    refine .inr ⟨e, ?_⟩
    dsimp only
    rw [if_pos (.inr rfl)]
theorem headF_small {m : Msg} (r : RouteR m) : (headF m).length ≤ 30 := by
  obtain ⟨l1, l2, l3, l4, l5, l6⟩ := least_base r.ae r.plen
  have := r.cut.2
  unfold headF
  rcases r.kinds with hk | ⟨hk, _, _, _, hi⟩
  · rw [if_neg (by omega)]; simp only [List.length_cons]; omega
  · rw [if_pos hk]; simp only [List.length_cons, List.length_append, be_length]; omega
theorem routePut_ok {m : Msg} (r : RouteR m) : routePut m = (u8of (if m.kind = 13 then 10 else 9) :: u8of (headF m ++ encS m.subs).length :: (headF m ++ encS m.subs), true) ∧ (headF m ++ encS m.subs).length ≤ 255 := by
  have h1 := headF_small r
  have h2 := encS_small r.subs
  have hl : (headF m ++ encS m.subs).length ≤ 255 := by simp only [List.length_append]; omega
  refine ⟨?_, hl⟩
  unfold routePut
  have ht : 1 ≤ (if m.kind = 13 then (10 : Int) else 9) ∧ (if m.kind = 13 then (10 : Int) else 9) ≤ 255 := by split <;> omega
  rw [if_pos (routeR_iff.2 r), tput, if_pos ⟨ht.1, ht.2, hl⟩]
end Go.VP
