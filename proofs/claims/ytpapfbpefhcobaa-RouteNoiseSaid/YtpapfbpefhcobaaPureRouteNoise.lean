/- The byte of a seqno request that has no name, and the bits of a prefix's last byte that are behind its length, may be any: for all arguments. -/
import Derived.Test.YtpapfbpefhcobaaFQ5
import Derived.Test.YtpapfbpefhcobaaPBase
import Derived.Test.YtpapfbpefhcobaaPCur
import Derived.Test.YtpapfbpefhcobaaPOct
import Derived.Test.YtpapfbpefhcobaaPTlv
import Derived.Test.YtpapfbpefhcobaaPSub
import Derived.Test.YtpapfbpefhcobaaPMsg
import Derived.Test.YtpapfbpefhcobaaPAddr
import Derived.Test.YtpapfbpefhcobaaPBits
import Derived.Test.YtpapfbpefhcobaaPField
import Derived.Test.YtpapfbpefhcobaaPFieldG
import Derived.Test.YtpapfbpefhcobaaPFieldB
import Derived.Test.YtpapfbpefhcobaaPRoute
import Derived.Test.YtpapfbpefhcobaaPRouteG
import Derived.Test.YtpapfbpefhcobaaPRouteB
import Derived.Test.YtpapfbpefhcobaaPGood
set_option linter.unusedVariables false
set_option linter.unusedSimpArgs false
set_option maxRecDepth 100000
namespace Go.VP
open Go Go.VI
theorem mask_noise {x k r : Nat} (hx : x < 256) (hr : r ≤ 7) : maskN (x ^^^ (k &&& (255 >>> r))) r = maskN x r := by
  unfold maskN
  have e : (x ^^^ (k &&& (255 >>> r))) / 2 ^ (8 - r) = x / 2 ^ (8 - r) := by
    rw [← Nat.shiftRight_eq_div_pow, ← Nat.shiftRight_eq_div_pow, Nat.shiftRight_xor_distrib]
    have h1 : k &&& (255 >>> r) ≤ 255 >>> r := Nat.and_le_right
    have h2 : (k &&& (255 >>> r)) >>> (8 - r) = 0 := by
      rw [Nat.shiftRight_eq_div_pow]
      apply Nat.div_eq_of_lt
      refine Nat.lt_of_le_of_lt h1 ?_
      rw [Nat.shiftRight_eq_div_pow]
      match r, hr with
      | 0, _ | 1, _ | 2, _ | 3, _ | 4, _ | 5, _ | 6, _ | 7, _ => decide
    rw [h2, Nat.xor_zero]
  rw [e]
theorem ishr255 : ∀ r : Fin 8, ishr .u8 255 (r.val : Int) = ((255 >>> r.val : Nat) : Int) := by decide +kernel
/-- A byte with noise behind its first r bits. -/
def noisy (x : UInt8) (n : Int) (r : Int) : UInt8 := u8of (ibits .xor .u8 (x.toNat : Int) (ibits .and .u8 n (ishr .u8 255 r)))
theorem noisy_mask {x : UInt8} {n r : Int} (hn : IntKind.has .u8 n) (hr : 0 ≤ r ∧ r ≤ 7) : maskB (noisy x n r) r = maskB x r := by
  rw [has8] at hn
  obtain ⟨k, rfl⟩ : ∃ k : Nat, n = k := ⟨n.toNat, by omega⟩
  obtain ⟨q, rfl⟩ : ∃ q : Nat, r = q := ⟨r.toNat, by omega⟩
  have hx := x.toNat_lt
  have h255 := ishr255 ⟨q, by omega⟩
  dsimp only at h255
  have hle : 255 >>> q ≤ 255 := by rw [Nat.shiftRight_eq_div_pow]; exact Nat.div_le_self ..
  have hm : k &&& (255 >>> q) ≤ 255 >>> q := Nat.and_le_right
  have hb : x.toNat ^^^ (k &&& (255 >>> q)) < 256 := Nat.xor_lt_two_pow (n := 8) hx (by omega)
  have e : (noisy x k q).toNat = x.toNat ^^^ (k &&& (255 >>> q)) := by
    unfold noisy
    rw [h255, ib8_and (by omega) (by omega), ib8_xor hx (by omega), u8of_toNat' hb]
  apply UInt8.toNat.inj
  rw [maskB_toNat, maskB_toNat, e, show min (q : Int).toNat 8 = q by omega, mask_noise hx (by omega)]
theorem cut_congr {d e : Bs} {p n : Int} (hp : 0 ≤ p) (hn : 0 ≤ n) (h : ∀ j : Nat, p ≤ j → (j : Int) < p + n → e[j]? = d[j]?) : cut_ e p n = cut_ d p n := by
  apply List.ext_getElem?
  intro i
  unfold cut_
  rw [List.getElem?_drop, List.getElem?_drop, List.getElem?_take, List.getElem?_take]
  split
  · rw [h _ (by omega) (by omega)]
  · rfl
theorem keep_last {b : Bs} {n : Int} {x : UInt8} {k : Nat} (hk : k + 1 = b.length) (h : maskB x (n - 8 * k) = maskB (b[k]'(by omega)) (n - 8 * k)) : keepF (b.set k x) n = keepF b n := by
  apply List.ext_getElem
  · simp [keepF_length]
  · intro j h1 h2
    have hj : j < b.length := by rw [keepF_length] at h2; exact h2
    rw [keepF_get _ _ j (by simpa using hj), keepF_get _ _ j hj, List.getElem_set]
    split
    · rename_i he; subst he; exact h
    · rfl
theorem whole_last {ae plen : Int} {b : Bs} {x : UInt8} {k : Nat} (hae : 0 ≤ ae ∧ ae < 4) (hk : k + 1 = b.length) (h : maskB x (plen - 8 * baseA ae - 8 * k) = maskB (b[k]'(by omega)) (plen - 8 * baseA ae - 8 * k)) : wholeF ae (b.set k x) plen = wholeF ae b plen := by
  unfold wholeF fillF
  rw [List.length_set]
  by_cases h3 : ae = 3
  · have e8 : baseA ae = 8 := by rw [h3]; rfl
    rw [e8] at h
    rw [if_pos h3, if_pos h3, keepF_append, keepF_append, keepF_append, keepF_append, List.length_set, keep_last hk (by rw [linkP_len]; exact h)]
  · have e0 : baseA ae = 0 := by
      rcases ae_cases hae with h | h | h | h
      · rw [h]; rfl
      · rw [h]; rfl
      · rw [h]; rfl
      · exact absurd h h3
    rw [e0] at h
    rw [if_neg h3, if_neg h3, keepF_append, keepF_append, List.length_set, keep_last hk (by rw [show plen - 8 * 0 = plen by omega] at h; exact h)]
theorem cut_get {d : Bs} {p n : Int} (hp : 0 ≤ p) (hn : 0 ≤ n) (i : Nat) : (cut_ d p n)[i]? = if (i : Int) < n then d[p.toNat + i]? else none := by
  unfold cut_
  rw [List.getElem?_drop, List.getElem?_take]
  split
  · rw [if_pos (by omega)]
  · rw [if_neg (by omega)]
/-- Bytes that differ where nothing has a name. -/
theorem routeG_noise {ty N P : Int} {d e : Bs} (hP : P = if ty = 10 then 14 else 2) (hl : e.length = d.length) (hae : 0 ≤ bt d 0 ∧ bt d 0 < 4) (hg : greatB (bt d 0) (bt d 1) = false) (hN : N = restN (bt d 0) (bt d 1) 0) (hlen : P + N ≤ d.length)
    (h : ∀ j : Nat, ¬ (ty = 10 ∧ j = 5) → ¬ (0 < N ∧ (j : Int) = P + N - 1) → e[j]? = d[j]?)
    (hx : 0 < N → ∃ x y, e[(P + N - 1).toNat]? = some y ∧ d[(P + N - 1).toNat]? = some x ∧ maskB y (bt d 1 - 8 * baseA (bt d 0) - 8 * (N - 1)) = maskB x (bt d 1 - 8 * baseA (bt d 0) - 8 * (N - 1))) : routeG ty e = routeG ty d := by
  have hP2 : (2 : Int) ≤ P ∧ P ≤ 14 := by rw [hP]; split <;> omega
  have f5 := restN_len hae hg
  rw [← hN] at f5
  have t0 : bt e 0 = bt d 0 := by unfold bt; rw [h 0 (by omega) (by omega)]
  have t1 : bt e 1 = bt d 1 := by unfold bt; rw [h 1 (by omega) (by omega)]
  have q1 : preF d P (bt d 0) (bt d 1) 0 = (cut_ d P N, 0) := by rw [preF_fine hg (by omega) (by omega), ← hN]
  have q2 : preF e P (bt d 0) (bt d 1) 0 = (cut_ e P N, 0) := by rw [preF_fine hg (by omega) (by omega), ← hN]
  have dr : e.drop (P + N).toNat = d.drop (P + N).toNat := by
    apply List.ext_getElem?
    intro i
    rw [List.getElem?_drop, List.getElem?_drop]
    by_cases h5 : ty = 10 ∧ (P + N).toNat + i = 5
    · rw [if_pos h5.1] at hP; omega
    · exact h _ h5 (by omega)
  have w : wholeF (bt d 0) (cut_ e P N) (bt d 1) = wholeF (bt d 0) (cut_ d P N) (bt d 1) := by
    by_cases h0 : 0 < N
    · obtain ⟨x, y, e1, e2, e3⟩ := hx h0
      have hcl := cut_length (s := d) (p := P) (n := N) (by omega) (by omega) hlen
      have eq : cut_ e P N = (cut_ d P N).set (N - 1).toNat y := by
        apply List.ext_getElem?
        intro i
        rw [cut_get (by omega) (by omega), List.getElem?_set]
        by_cases hi : (N - 1).toNat = i
        · subst hi
          rw [if_pos (by omega), if_pos rfl, if_pos (by omega), show P.toNat + (N - 1).toNat = (P + N - 1).toNat by omega, e1]
        · rw [if_neg hi, cut_get (by omega) (by omega)]
          split
          · by_cases h5 : ty = 10 ∧ P.toNat + i = 5
            · rw [if_pos h5.1] at hP; omega
            · exact h _ h5 (by omega)
          · rfl
      have hk : (N - 1).toNat + 1 = (cut_ d P N).length := by omega
      rw [eq, whole_last hae hk]
      have ex : (cut_ d P N)[(N - 1).toNat]'(by omega) = x := by
        have := cut_get (d := d) (p := P) (n := N) (by omega) (by omega) (N - 1).toNat
        rw [if_pos (by omega), show P.toNat + (N - 1).toNat = (P + N - 1).toNat by omega, e2, List.getElem?_eq_getElem (by omega)] at this
        injection this
      rw [ex, show (((N - 1).toNat : Nat) : Int) = N - 1 by omega]
      exact e3
    · have hz : N = 0 := by omega
      have : cut_ e P N = cut_ d P N := cut_congr (by omega) (by omega) (fun j a b => by omega)
      rw [this]
  unfold routeG
  rw [hl, t0, t1, ← hP]
  dsimp only
  rw [q1, q2, ← hN, dr]
  dsimp only
  rw [w]
  by_cases h10 : ty = 10
  · rw [if_pos h10] at hP
    have t4 : bt e 4 = bt d 4 := by unfold bt; rw [h 4 (by omega) (by omega)]
    have c2 : cut_ e 2 2 = cut_ d 2 2 := cut_congr (by omega) (by omega) (fun j a b => h j (by omega) (by omega))
    have c6 : cut_ e 6 8 = cut_ d 6 8 := cut_congr (by omega) (by omega) (fun j a b => h j (by omega) (by omega))
    rw [t4, c2, c6]
  · simp only [if_neg h10]
theorem routeG_nums {ty : Int} {d : Bs} (ht : ty = 9 ∨ ty = 10) {m : Msg} {f : Int} (hm : routeG ty d = (m, true, f)) : m.ae = bt d 0 ∧ m.plen = bt d 1 ∧ f = 0 ∧ (0 ≤ bt d 0 ∧ bt d 0 < 4) ∧ greatB (bt d 0) (bt d 1) = false ∧ (if ty = 10 then 14 else 2) + restN (bt d 0) (bt d 1) 0 ≤ d.length := by
  have b0 := bt_rng d 0
  have hP : (2 : Int) ≤ (if ty = 10 then 14 else 2) := by split <;> omega
  have no : ∀ {x : Int}, (msg0, false, x) ≠ (m, true, f) := fun h => by obtain ⟨_, h⟩ := Prod.mk.inj h; obtain ⟨h, _⟩ := Prod.mk.inj h; cases h
  unfold routeG at hm
  by_cases h1 : (d.length : Int) < (if ty = 10 then 14 else 2)
  · rw [if_pos h1] at hm; exact absurd hm no
  rw [if_neg h1] at hm
  by_cases h2 : 3 < bt d 0
  · rw [if_pos h2] at hm; exact absurd hm no
  rw [if_neg h2] at hm
  have hae : 0 ≤ bt d 0 ∧ bt d 0 < 4 := by omega
  dsimp only at hm
  by_cases h3 : (preF d (if ty = 10 then 14 else 2) (bt d 0) (bt d 1) 0).2 ≠ 0
  · rw [if_pos h3] at hm; exact absurd hm no
  rw [if_neg h3] at hm
  obtain ⟨f1, f2, f3, f4⟩ := preF_ok (p := if ty = 10 then 14 else 2) hae (by omega) (by simpa using h3)
  generalize getS (d.drop ((if ty = 10 then 14 else 2) + restN (bt d 0) (bt d 1) 0).toNat) = x at hm
  by_cases h4 : x.2.2 ≠ 0 ∨ x.2.1 = false
  · rw [if_pos h4] at hm; exact absurd hm no
  rw [if_neg h4] at hm
  rcases ht with rfl | rfl
  · rw [if_neg (show ¬ (9 : Int) = 10 by decide)] at hm
    obtain ⟨hm, h⟩ := Prod.mk.inj hm
    obtain ⟨_, h⟩ := Prod.mk.inj h
    rw [← hm]
    exact ⟨rfl, rfl, h.symm, hae, f2, f3⟩
  · rw [if_pos (show (10 : Int) = 10 from rfl)] at hm
    by_cases h5 : bt d 0 = 0 ∨ bt d 4 = 0
    · rw [if_pos h5] at hm; exact absurd hm no
    · rw [if_neg h5] at hm
      obtain ⟨hm, h⟩ := Prod.mk.inj hm
      obtain ⟨_, h⟩ := Prod.mk.inj h
      rw [← hm]
      exact ⟨rfl, rfl, h.symm, hae, f2, f3⟩
/-- The law's last part, as the code lays it: noise in a prefix's last byte. -/
theorem noise_core {R : Type} {K : Bs → Option R} {X : Option R} {S : Bs} {t : R} {p N plen n : Int} (hp : 0 ≤ p ∧ p ≤ 14) (hN : 0 ≤ N ∧ N ≤ 16) (hl : p + N ≤ S.length) (hpl : 0 ≤ plen ∧ plen ≤ 128) (k1 : X = some t)
    (k2 : 0 < N → plen % 8 ≠ 0 → ∀ x, S[(p + N - 1).toNat]? = some x → K (S.set (p + N - 1).toNat (noisy x n (plen % 8))) = some t) :
    (if (decide (0 < N)) = true then (if ((plen.tmod 8) != 0) = true then (if (decide ((IntKind.wrap .i64 (p + N)) ≤ (S.length : Int))) = true then (if 0 ≤ (IntKind.wrap .i64 ((IntKind.wrap .i64 (p + N)) - 1)) ∧ (IntKind.wrap .i64 ((IntKind.wrap .i64 (p + N)) - 1)) < (S.length : Int) then (S[(IntKind.wrap .i64 ((IntKind.wrap .i64 (p + N)) - 1)).toNat]?.bind fun (y6 : UInt8) => (if 0 ≤ (IntKind.wrap .u64 (plen.tmod 8)) then (if 0 ≤ (IntKind.wrap .i64 ((IntKind.wrap .i64 (p + N)) - 1)) ∧ (IntKind.wrap .i64 ((IntKind.wrap .i64 (p + N)) - 1)) < (S.length : Int) then (if (IntKind.wrap .i64 ((IntKind.wrap .i64 (p + N)) - 1)).toNat < S.length then K (S.set (IntKind.wrap .i64 ((IntKind.wrap .i64 (p + N)) - 1)).toNat (u8of (ibits .xor .u8 (y6.toNat : Int) (ibits .and .u8 n (ishr .u8 255 (IntKind.wrap .u64 (plen.tmod 8))))))) else none) else none) else none)) else none) else X) else X) else X) = some t := by
  by_cases h0 : 0 < N
  · rw [ifd h0, Int.tmod_eq_emod_of_nonneg hpl.1]
    by_cases h8 : plen % 8 = 0
    · rw [if_neg (by simp [h8])]; exact k1
    · rw [if_pos (by simp [h8]), w64 (x := p + N) (by omega) (by omega), w64 (x := p + N - 1) (by omega) (by omega), wu64 (by omega) (by omega), ifd hl, if_pos (by omega)]
      have hi : (p + N - 1).toNat < S.length := by omega
      rw [bind_at hi, if_pos (by omega), if_pos (by omega), if_pos hi]
      exact k2 h0 h8 _ (List.getElem?_eq_getElem hi)
  · rw [ifn h0]; exact k1
theorem least_mod {ae plen N : Int} (h : N = restN ae plen 0) (h0 : 0 ≤ plen) (h8 : plen % 8 ≠ 0) : plen - 8 * baseA ae - 8 * (N - 1) = plen % 8 := by
  have : leastF plen = (plen + 7) / 8 := by unfold leastF; rw [if_neg (by omega)]
  unfold restN at h
  omega
theorem nEx {plen : Int} (h : 0 ≤ plen ∧ plen ≤ 255) : IntKind.wrap .i64 (Int.tdiv (IntKind.wrap .i64 (plen + 7)) 8) = leastF plen := by
  rw [w64 (x := plen + 7) (by omega) (by omega), Int.tdiv_eq_ediv_of_nonneg (by omega), w64 (by omega) (by omega)]
  unfold leastF; rw [if_neg (by omega)]
set_option maxHeartbeats 4000000 in
theorem routeNoise_pure (x0 : S_api_Tlv) (g0 : Good_api_Tlv x0) (x1 : S_2_uint8) (g1 : Good_2_uint8 x1) : g_law21_RouteNoise (x0, x1, ()) = some ((true, ()), ()) := by
  obtain ⟨gc0, gc1, _⟩ := g1
  obtain ⟨ty, at_, d⟩ := x0
  rw [g_law21_RouteNoise_eq]
  dsimp only
  -- the message of changed bytes is the same
  have fin : ∀ {m : Msg} {f : Int} {e : Bs}, (ty = 9 ∨ ty = 10) → d.length ≤ 255 → e.length = d.length → routeG ty d = (m, true, f) → f = 0 → routeG ty e = routeG ty d → m.list.length ≤ 1000 → m.subs.length ≤ 1000 →
      ((g_route_Get ((S_api_Tlv.mk ty at_ e), ())).bind fun r7 => ((g_law21_awake ()).bind fun r8 => (if r8.1.1 = true then (if (f == 0) = true then (if r7.1.2.1 = true then (if (r7.1.2.2.1 == 0) = true then ((g_ref07_Same (m, r7.1.1, ())).bind fun r9 => some ((r9.1.1, ()), ())) else some ((false, ()), ())) else some ((false, ()), ())) else some ((false, ()), ())) else some ((false, ()), ())))) = some ((true, ()), ()) := by
    intro m f e ht hd hl hm hf he h1 h2
    subst hf
    rw [getR_is (by omega) ht, Option.bind_some, he, hm, awake21, Option.bind_some]
    dsimp only [trip]
    rw [ift, if_pos (show ((0 : Int) == 0) = true from rfl), ift, same_is (by omega) (by omega), eqB_refl]; rfl
  by_cases ht : ty = 9 ∨ ty = 10
  rotate_left
  · rw [if_pos (by simp; omega), if_pos (by simp; omega), awake21]; rfl
  -- both kinds go alike
  have main : ∀ hd : ¬ (255 : Int) < d.length, True := fun _ => trivial
  by_cases hd : (255 : Int) < d.length
  · rcases ht with rfl | rfl
    · rw [if_neg (by decide), ifd hd, awake21]; rfl
    · rw [if_pos (by decide), if_neg (by decide), ifd hd, awake21]; rfl
  have hg := getR_is (ty := ty) (at_ := at_) (d := d) (by omega) ht
  cases hq : routeG ty d with
  | mk m q =>
  obtain ⟨k, f⟩ := q
  rw [hq] at hg
  cases k with
  | false =>
    rcases ht with rfl | rfl
    · rw [if_neg (by decide), ifn hd, hg, Option.bind_some]; dsimp only [trip]; rw [ifnf, awake21]; rfl
    · rw [if_pos (by decide), if_neg (by decide), ifn hd, hg, Option.bind_some]; dsimp only [trip]; rw [ifnf, awake21]; rfl
  | true =>
    obtain ⟨m1, m2, m3, hae, hgr, hlen⟩ := routeG_nums ht hq
    have f5 := restN_len hae hgr
    have hls : m.list.length ≤ 1000 ∧ m.subs.length ≤ 1000 := by
      rcases routeG_cases (d := d) ht (by omega) with ⟨m', e, _, g, _⟩ | ⟨x, e⟩
      · rw [hq] at e; obtain ⟨rfl, _⟩ := Prod.mk.inj e; exact ⟨g.few.list, g.few.subs⟩
      · rw [hq] at e; obtain ⟨rfl, _⟩ := Prod.mk.inj e; exact ⟨by simp, by simp⟩
    obtain ⟨N, hN⟩ : ∃ N, N = restN (bt d 0) (bt d 1) 0 := ⟨_, rfl⟩
    rw [← hN] at f5 hlen
    have hpl : 0 ≤ bt d 1 ∧ bt d 1 ≤ 128 := f5.2.2.2.2
    -- with noise in the prefix's last byte, over bytes S that are d but for byte 5
    have step : ∀ {S : Bs} {P : Int}, P = (if ty = 10 then 14 else 2) → S.length = d.length → (∀ j : Nat, ¬ (ty = 10 ∧ j = 5) → S[j]? = d[j]?) →
        routeG ty S = routeG ty d ∧ (0 < N → bt d 1 % 8 ≠ 0 → ∀ x, S[(P + N - 1).toNat]? = some x → routeG ty (S.set (P + N - 1).toNat (noisy x x1.c1 (bt d 1 % 8))) = routeG ty d) := by
      intro S P hP hS hj
      refine ⟨routeG_noise hP hS hae hgr hN (by rw [hP]; exact hlen) (fun j a _ => hj j a) (fun h0 => ?_), fun h0 h8 x hx => routeG_noise hP (by simp [hS]) hae hgr hN (by rw [hP]; exact hlen) (fun j a b => ?_) (fun h0 => ?_)⟩
      · have hi : (P + N - 1).toNat < d.length := by rw [← hP] at hlen; omega
        have e1 : S[(P + N - 1).toNat]? = d[(P + N - 1).toNat]? := hj _ (by rintro ⟨h10, h5⟩; rw [if_pos h10] at hP; omega)
        exact ⟨_, _, by rw [e1]; exact List.getElem?_eq_getElem hi, List.getElem?_eq_getElem hi, rfl⟩
      · rw [List.getElem?_set_ne (by omega)]; exact hj j a
      · have hi : (P + N - 1).toNat < d.length := by rw [← hP] at hlen; omega
        have e1 : S[(P + N - 1).toNat]? = d[(P + N - 1).toNat]? := hj _ (by rintro ⟨h10, h5⟩; rw [if_pos h10] at hP; omega)
        rw [e1] at hx
        refine ⟨x, _, List.getElem?_set_self (by omega), hx, ?_⟩
        rw [least_mod hN hpl.1 h8]
        exact noisy_mask gc1 (by omega)
    rcases ht with rfl | rfl
    · rw [if_neg (by decide), ifn hd, hg, Option.bind_some]
      dsimp only [trip]
      rw [ifnt, if_neg (show ¬ ((9 : Int) == 10) = true by decide), m1, m2, nEx (by omega)]
      have hX : ((some ((m, true, f, ()), ()) : Option ((Msg × Bool × Int × Unit) × Unit)).bind fun r7 => ((g_law21_awake ()).bind fun r8 => (if r8.1.1 = true then (if (f == 0) = true then (if r7.1.2.1 = true then (if (r7.1.2.2.1 == 0) = true then ((g_ref07_Same (m, r7.1.1, ())).bind fun r9 => some ((r9.1.1, ()), ())) else some ((false, ()), ())) else some ((false, ()), ())) else some ((false, ()), ())) else some ((false, ()), ())))) = some ((true, ()), ()) := by
        rw [Option.bind_some, awake21, Option.bind_some, m3]
        dsimp only
        rw [ift, if_pos (show ((0 : Int) == 0) = true from rfl), ift, same_is (by omega) (by omega), eqB_refl]; rfl
      obtain ⟨s1, s2⟩ := step (S := d) (P := 2) (if_neg (by decide)).symm rfl (fun _ _ => rfl)
      have e3 := f5.2.2.2.1
      by_cases h3 : bt d 0 = 3
      · have er : leastF (bt d 1) - 8 = N := by rw [hN, h3]; show _ = leastF (bt d 1) - 8 - 0; omega
        rw [if_pos (show (bt d 0 == 3) = true by simp [h3]), w64 (x := leastF (bt d 1) - 8) (by omega) (by omega), er]
        refine noise_core (K := fun e => ((g_route_Get ((S_api_Tlv.mk 9 at_ e), ())).bind fun r7 => ((g_law21_awake ()).bind fun r8 => (if r8.1.1 = true then (if (f == 0) = true then (if r7.1.2.1 = true then (if (r7.1.2.2.1 == 0) = true then ((g_ref07_Same (m, r7.1.1, ())).bind fun r9 => some ((r9.1.1, ()), ())) else some ((false, ()), ())) else some ((false, ()), ())) else some ((false, ()), ())) else some ((false, ()), ()))))) (by omega) (by omega) hlen hpl hX (fun a b x hx => fin (.inl rfl) (by omega) (by simp) hq m3 (s2 a b x hx) hls.1 hls.2)
      · have er : leastF (bt d 1) = N := by
          have : baseA (bt d 0) = 0 := by
            rcases ae_cases hae with h | h | h | h
            · rw [h]; rfl
            · rw [h]; rfl
            · rw [h]; rfl
            · exact absurd h h3
          rw [hN]; unfold restN; omega
        rw [if_neg (show ¬ (bt d 0 == 3) = true by simp [h3]), er]
        refine noise_core (K := fun e => ((g_route_Get ((S_api_Tlv.mk 9 at_ e), ())).bind fun r7 => ((g_law21_awake ()).bind fun r8 => (if r8.1.1 = true then (if (f == 0) = true then (if r7.1.2.1 = true then (if (r7.1.2.2.1 == 0) = true then ((g_ref07_Same (m, r7.1.1, ())).bind fun r9 => some ((r9.1.1, ()), ())) else some ((false, ()), ())) else some ((false, ()), ())) else some ((false, ()), ())) else some ((false, ()), ()))))) (by omega) (by omega) hlen hpl hX (fun a b x hx => fin (.inl rfl) (by omega) (by simp) hq m3 (s2 a b x hx) hls.1 hls.2)
    · have h5 : 5 < d.length := by rw [if_pos rfl] at hlen; omega
      rw [if_pos (by decide), if_neg (by decide), ifn hd, hg, Option.bind_some]
      dsimp only [trip]
      rw [ifnt, if_pos (show ((10 : Int) == 10) = true from rfl), if_pos (show 0 ≤ (5 : Int) ∧ (5 : Int) < (d.length : Int) by omega), bind_at h5, if_pos (show 0 ≤ (5 : Int) ∧ (5 : Int) < (d.length : Int) by omega), if_pos h5, m1, m2, nEx (by omega)]
      generalize hS : d.set 5 (u8of (ibits .xor .u8 ((d[5].toNat : Nat) : Int) x1.c0)) = S
      have hSl : S.length = d.length := by rw [← hS]; simp
      have hSj : ∀ j : Nat, ¬ ((10 : Int) = 10 ∧ j = 5) → S[j]? = d[j]? := fun j hj => by rw [← hS, List.getElem?_set_ne (by omega)]
      obtain ⟨s1, s2⟩ := step (S := S) (P := 14) (if_pos rfl).symm hSl hSj
      by_cases h3 : bt d 0 = 3
      · have er : leastF (bt d 1) - 8 = N := by rw [hN, h3]; show _ = leastF (bt d 1) - 8 - 0; omega
        rw [if_pos (show (bt d 0 == 3) = true by simp [h3]), w64 (x := leastF (bt d 1) - 8) (by omega) (by omega), er]
        refine noise_core (K := fun e => ((g_route_Get ((S_api_Tlv.mk 10 at_ e), ())).bind fun r7 => ((g_law21_awake ()).bind fun r8 => (if r8.1.1 = true then (if (f == 0) = true then (if r7.1.2.1 = true then (if (r7.1.2.2.1 == 0) = true then ((g_ref07_Same (m, r7.1.1, ())).bind fun r9 => some ((r9.1.1, ()), ())) else some ((false, ()), ())) else some ((false, ()), ())) else some ((false, ()), ())) else some ((false, ()), ()))))) (by omega) (by omega) (by rw [hSl]; exact hlen) hpl (fin (.inr rfl) (by omega) hSl hq m3 s1 hls.1 hls.2) (fun a b x hx => fin (.inr rfl) (by omega) (by simp [hSl]) hq m3 (s2 a b x hx) hls.1 hls.2)
      · have er : leastF (bt d 1) = N := by
          have : baseA (bt d 0) = 0 := by
            rcases ae_cases hae with h | h | h | h
            · rw [h]; rfl
            · rw [h]; rfl
            · rw [h]; rfl
            · exact absurd h h3
          rw [hN]; unfold restN; omega
        rw [if_neg (show ¬ (bt d 0 == 3) = true by simp [h3]), er]
        refine noise_core (K := fun e => ((g_route_Get ((S_api_Tlv.mk 10 at_ e), ())).bind fun r7 => ((g_law21_awake ()).bind fun r8 => (if r8.1.1 = true then (if (f == 0) = true then (if r7.1.2.1 = true then (if (r7.1.2.2.1 == 0) = true then ((g_ref07_Same (m, r7.1.1, ())).bind fun r9 => some ((r9.1.1, ()), ())) else some ((false, ()), ())) else some ((false, ()), ())) else some ((false, ()), ())) else some ((false, ()), ()))))) (by omega) (by omega) (by rw [hSl]; exact hlen) hpl (fin (.inr rfl) (by omega) hSl hq m3 s1 hls.1 hls.2) (fun a b x hx => fin (.inr rfl) (by omega) (by simp [hSl]) hq m3 (s2 a b x hx) hls.1 hls.2)
end Go.VP
