import Derived.Test.YtbjjekbhopgonaaGreatGaM0
import Derived.Test.YtbjjekbhopgonaaGreatGaFQ3
import Derived.Test.YtbjjekbhopgonaaGreatGaFH
import Derived.Test.YtbjjekbhopgonaaGreatGaFQ15
import Derived.Test.YtbjjekbhopgonaaGreatGaFQ5
import Derived.Test.YtbjjekbhopgonaaGreatGaFQ6
import Derived.Test.YtbjjekbhopgonaaGreatGaFQ4
import Derived.Test.YtbjjekbhopgonaaGreatGaFQ7
import Derived.Test.YtbjjekbhopgonaaGreatGaFQ16
import Derived.Test.YtbjjekbhopgonaaGreatGaFQ0
import Derived.Test.YtbjjekbhopgonaaGreatGaFQ2
import Derived.Test.YtbjjekbhopgonaaGreatGaFQ1
import Derived.Test.YtbjjekbhopgonaaGreatGaFGood
set_option linter.unusedVariables false
set_option linter.unusedSimpArgs false
set_option maxRecDepth 100000
namespace Go.VP
open Go Go.VI
structure OpqR (m : Msg) : Prop where
  kind : m.kind = 14
  bare : bareB m = true
  ty : 10 < m.type_ ∧ m.type_ < 256
  len : m.data.length < 256
inductive LeanR (m : Msg) : Prop
  | field (h : FieldR m)
  | route (h : RouteR m)
  | upd (h : UpdR m)
  | opq (h : OpqR m)
structure GoodL (m : Msg) : Prop where
  good : GoodM m
  ty : IntKind.has .i64 m.type_
  metric : IntKind.has .i64 m.metric
theorem takeG_subs {d : Bs} (h : (takeG d).1.have_ = 1) (hk : (takeG d).2.1 = true) : AllR (takeG d).1.subs ∧ sumN (takeG d).1.subs ≤ 200 ∧ (takeG d).1.subs.length ≤ d.length ∧ 10 + sumN (takeG d).1.subs ≤ d.length ∧ (0 ≤ (takeG d).1.interval ∧ (takeG d).1.interval < 65536) ∧ (0 ≤ (takeG d).1.seq ∧ (takeG d).1.seq < 65536) ∧ (0 ≤ (takeG d).1.plen ∧ (takeG d).1.plen ≤ highA (takeG d).1.ae) := by
  have b0 := bt_rng d 0
  have b2 := bt_rng d 2
  unfold takeG at h hk ⊢
  split at hk
  · cases hk
  rename_i h1
  split at hk
  · cases hk
  rename_i h2
  rw [if_neg h1, if_neg h2] at h ⊢
  dsimp only at h hk ⊢
  split at hk
  · cases hk
  rename_i h3
  split at hk
  · cases hk
  rename_i h4
  rw [if_neg h3, if_neg h4] at h ⊢
  dsimp only at h ⊢
  have h3' : (preF d 10 (bt d 0) (bt d 2) (bt d 3)).2 = 0 := by simpa using h3
  have hrest : 0 ≤ restN (bt d 0) (bt d 2) (bt d 3) := by
    unfold preF at h3'
    split at h3'
    · cases h3'
    · omega
  have hg : greatB (bt d 0) (bt d 2) = false := by
    unfold preF at h3'
    split at h3'
    · cases h3'
    · rename_i q; cases e : greatB (bt d 0) (bt d 2) with
      | false => rfl
      | true => exact absurd (.inl e) q
  have hp : lowA (bt d 0) ≤ bt d 2 ∧ bt d 2 ≤ highA (bt d 0) := by unfold greatB at hg; simpa using hg
  rcases getS_cases (d.drop (10 + restN (bt d 0) (bt d 2) (bt d 3)).toNat) with ⟨l, e, q1, q2, q3, q4⟩ | ⟨l, e⟩ | ⟨x, e, q⟩
  · rw [e] at h ⊢
    rw [List.length_drop] at q3 q4
    exact ⟨q1, q2, by dsimp only; omega, by dsimp only; omega, num_cut_rng (by omega) (by omega), num_cut_rng (by omega) (by omega), by omega, hp.2⟩
  · rw [e] at h; cases h
  · rw [e] at h4; exact absurd q h4
theorem updF_cases {c : Ctx} {d : Bs} (hc : okC c) (hd : d.length ≤ 900) : (updF c d).2.1 = [] ∨ ∃ m, (updF c d).2.1 = [m] ∧ UpdR m ∧ GoodL m ∧ sumN m.subs + 10 ≤ d.length ∧ (updF c d).2.2 = 0 ∧ (m.metric ≠ 65535 → (updF c d).1.id = m.id ∧ nextC (updF c d).1 (famE m.ae) = m.next) := by
  unfold updF
  split
  rotate_left
  · exact .inl rfl
  rename_i ht
  split
  rotate_left
  · exact .inl rfl
  rename_i ha
  split
  rotate_left
  · exact .inl rfl
  rename_i hto
  obtain ⟨hr, h0⟩ := takeG_raw ht
  have hl := addrF_len hc hr ha
  have hk := addrF_link hc hr ha
  have h1 : (takeG d).1.have_ = 1 := by
    unfold toldB at hto; simp at hto; exact hto.1
  obtain ⟨s1, s2, s3, s4, s5, s6, s7⟩ := takeG_subs h1 ht
  have hclean : keepF (addrF c (takeG d).1).1 (takeG d).1.plen = (addrF c (takeG d).1).1 := by
    unfold addrF at ha ⊢
    split
    · unfold wholeF; exact keepF_idem _ _
    · rename_i q; rw [if_neg q] at ha
      split
      · rename_i q2; rw [if_pos q2] at ha; cases ha
      · unfold wholeF; exact keepF_idem _ _
  have hok := okC_flags hc hr hl hk
  have hlow := hr.low
  have hsub2 := sub_len (l := (takeG d).1.subs)
  generalize (takeG d).1 = r at *
  generalize (addrF c r).1 = a at *
  have hae := hr.ae
  have hme := hr.metric
  have hsz : szA r.ae ≤ 16 := by unfold szA; split <;> (try split) <;> (try split) <;> omega
  have hmu : (updM (flagsF c r a) r a).metric = r.metric := rfl
  have hhi : highA r.ae ≤ 128 := by unfold highA; split <;> (try split) <;> (try split) <;> omega
  generalize hfc : flagsF c r a = F at *
  have hFid : r.metric ≠ 65535 → F.id.length = 8 ∧ 0 < r.ae := fun hm => by
    unfold toldB at hto
    simp [h1, hm] at hto
    rcases hok.2.2.2.2.2.2 with q | q
    · exact absurd q hto.2
    · exact ⟨q, hto.1⟩
  have hFn : r.metric ≠ 65535 → nextC F (famE r.ae) = [] ∨ famF (nextC F (famE r.ae)) = famE r.ae := fun hm => by
    have hp := (hFid hm).2
    have hf := famE_rng (ae := r.ae) (by omega)
    unfold nextC
    by_cases f0 : famE r.ae = 0
    · rw [if_pos f0, f0]
      rcases hok.2.2.2.2.1 with q | q
      · exact .inl q
      · right; unfold famF; rw [if_pos q]
    · rw [if_neg f0, show famE r.ae = 1 by omega]
      rcases hok.2.2.2.2.2.1 with q | q
      · exact .inl q
      · right; unfold famF; rw [if_neg (by omega), if_pos q]
  have e0 : ([] : Bs).length ≤ 400 := by decide
  have n0 : ([] : List Dest).length ≤ 1000 := by decide
  have has0 : IntKind.has .i64 0 := has64.2 (by omega)
  have hnl : (if r.metric = 65535 then ([] : Bs) else (if famE r.ae = 0 then F.next_c0 else F.next_c1)).length ≤ 400 := by
    split
    · exact e0
    · have := hok.2.2.2.2.1; have := hok.2.2.2.2.2.1
      split
      · rcases hok.2.2.2.2.1 with q | q
        · rw [q]; exact e0
        · omega
      · rcases hok.2.2.2.2.2.1 with q | q
        · rw [q]; exact e0
        · omega
  have hil : (if r.metric = 65535 then ([] : Bs) else F.id).length ≤ 400 := by
    split
    · exact e0
    · rcases hok.2.2.2.2.2.2 with q | q
      · rw [q]; exact e0
      · omega
  refine .inr ⟨updM F r a, rfl, ⟨rfl, ?_, rightB_of s1 s2, ?_, s5, s6, by rw [hmu]; omega, fun hm => ?_, fun hm => ?_⟩, ⟨⟨⟨n0, by show r.subs.length ≤ 1000; omega, e0, by show a.length ≤ 400; omega, hnl, hil, e0, e0, e0, (fun d h => by cases h), s1.few⟩, has0, has64.2 (by show _ ≤ r.interval ∧ r.interval ≤ _; omega), has64.2 (by show _ ≤ r.seq ∧ r.seq ≤ _; omega), has0, has64.2 (by show _ ≤ (11 : Int) ∧ (11 : Int) ≤ _; omega), has0, has64.2 (by show _ ≤ r.ae ∧ r.ae ≤ _; omega), has64.2 (by show _ ≤ r.plen ∧ r.plen ≤ _; omega), has0⟩, has0, has64.2 (by rw [hmu]; omega)⟩, by show sumN r.subs + 10 ≤ _; omega, rfl, fun hm => ?_⟩
  · have : bareOf (updM F r a) = some (updM F r a) := rfl
    rw [bareB, this]; exact eqB_refl _
  · exact inB_iff.2 ⟨hae, hl, ⟨hlow, s7.2⟩, hclean, hk⟩
  · have hm' : r.metric = 65535 := hm
    show (if r.metric = 65535 then [] else F.id) = [] ∧ (if r.metric = 65535 then [] else _) = []
    rw [if_pos hm', if_pos hm']; exact ⟨rfl, rfl⟩
  · have hm' : r.metric ≠ 65535 := hm
    show 0 < r.ae ∧ (if r.metric = 65535 then [] else F.id).length = 8 ∧ ((if r.metric = 65535 then [] else nextC F (famE r.ae)) = [] ∨ famF (if r.metric = 65535 then [] else nextC F (famE r.ae)) = famE r.ae)
    rw [if_neg hm', if_neg hm']
    exact ⟨(hFid hm').2, (hFid hm').1, hFn hm'⟩
  · have hm' : r.metric ≠ 65535 := hm
    show F.id = (if r.metric = 65535 then [] else F.id) ∧ nextC F (famE r.ae) = (if r.metric = 65535 then [] else nextC F (famE r.ae))
    rw [if_neg hm', if_neg hm']
    exact ⟨rfl, rfl⟩
end Go.VP
set_option linter.unusedVariables false
set_option linter.unusedSimpArgs false
set_option maxRecDepth 100000
namespace Go.VP
open Go Go.VI
def sizeB (b : Bs) : Int := bt b 2 * 256 + bt b 3
def bodyF (b : Bs) : Bs × Int × Int :=
  if 65535 < (b.length : Int) then ([], 65535, 10) else if (b.length : Int) < 4 then ([], b.length, 2)
  else if bt b 0 ≠ 42 then ([], 0, 4) else if bt b 1 ≠ 2 then ([], 1, 4)
  else if (b.length : Int) < 4 + sizeB b then ([], b.length, 2) else (cut_ b 4 (sizeB b), 0, 0)
theorem sizeB_rng (b : Bs) : 0 ≤ sizeB b ∧ sizeB b ≤ 65535 := by
  have h2 := bt_rng b 2
  have h3 := bt_rng b 3
  unfold sizeB; omega
theorem bodyF_ok {b : Bs} (h : (bodyF b).2.2 = 0) : 4 ≤ b.length ∧ b.length ≤ 65535 ∧ bt b 0 = 42 ∧ bt b 1 = 2 ∧ 4 + sizeB b ≤ b.length ∧ bodyF b = (cut_ b 4 (sizeB b), 0, 0) ∧ ((bodyF b).1.length : Int) = sizeB b := by
  have hr := sizeB_rng b
  unfold bodyF at h ⊢
  split at h
  · cases h
  split at h
  · cases h
  split at h
  · cases h
  split at h
  · cases h
  split at h
  · cases h
  rename_i h1 h2 h3 h4 h5
  rw [if_neg h1, if_neg h2, if_neg h3, if_neg h4, if_neg h5]
  exact ⟨by omega, by omega, by simpa using h3, by simpa using h4, by omega, rfl, cut_length (by omega) (by omega) (by omega)⟩
def behF (b : Bs) : Bs := b.drop (4 + sizeB b).toNat
def wrapF (s : Bs) : Bs × Bool := if 65531 < (s.length : Int) then ([], false) else (42 :: 2 :: (be 2 s.length ++ s), true)
theorem body_wrap {s t : Bs} (h : s.length ≤ 65531) (ht : t.length + s.length ≤ 65531) : bodyF ((wrapF s).1 ++ t) = (s, 0, 0) ∧ behF ((wrapF s).1 ++ t) = t ∧ (wrapF s).1.length = 4 + s.length ∧ (wrapF s).2 = true := by
  have e : wrapF s = (42 :: 2 :: (be 2 s.length ++ s), true) := by unfold wrapF; rw [if_neg (by omega)]
  rw [e]
  dsimp only
  have hL : ((42 :: 2 :: (be 2 (s.length : Int) ++ s)) : Bs).length = 4 + s.length := by simp [be_length]; omega
  have hb : (42 :: 2 :: (be 2 (s.length : Int) ++ s)) ++ t = ([42, 2] : Bs) ++ (be 2 (s.length : Int) ++ (s ++ t)) := by simp
  have n2 : num (be 2 (s.length : Int)) = s.length := num_be 2 _ (by omega) (by omega)
  generalize hB : (42 :: 2 :: (be 2 (s.length : Int) ++ s)) ++ t = B at *
  have hBl : B.length = 4 + s.length + t.length := by rw [hb]; simp [be_length]; omega
  have b0 : bt B 0 = 42 := by rw [hb]; rfl
  have b1 : bt B 1 = 2 := by rw [hb]; rfl
  have sz : sizeB B = s.length := by
    unfold sizeB
    rw [← num2 (s := B) (p := 2) (by omega)]
    have : cut_ B ((2 : Nat) : Int) 2 = be 2 (s.length : Int) := by
      rw [hb]
      show cut_ (([42, 2] : Bs) ++ (be 2 (s.length : Int) ++ (s ++ t))) 2 2 = _
      unfold cut_
      show List.drop 2 (List.take 4 (([42, 2] : Bs) ++ (be 2 (s.length : Int) ++ (s ++ t)))) = _
      rw [show 4 = ([42, 2] : Bs).length + 2 from rfl, List.take_length_add_append, List.drop_left' (by rfl), List.take_left' (be_length 2 _)]
    rw [this, n2]
  have ct : cut_ B 4 (s.length : Int) = s := by
    unfold cut_
    rw [hb, show ((4 : Int) + (s.length : Int)).toNat = 4 + s.length by omega, show (4 : Int).toNat = 4 from rfl, ← List.append_assoc, ← List.append_assoc, List.take_left' (by simp [be_length]; omega), List.drop_left' (by simp [be_length])]
  refine ⟨?_, ?_, hL, rfl⟩
  · unfold bodyF
    rw [if_neg (by omega), if_neg (by omega), if_neg (by rw [b0]; simp), if_neg (by rw [b1]; simp), sz, if_neg (by omega), ct]
  · unfold behF
    rw [sz, hb, ← List.append_assoc, ← List.append_assoc, List.drop_left' (by simp [be_length]; omega)]
end Go.VP
set_option linter.unusedVariables false
set_option linter.unusedSimpArgs false
set_option maxRecDepth 100000
namespace Go.VP
open Go Go.VI
theorem ishr8w {x : Int} (h : 0 ≤ x) : ishr .i64 x 8 = x / 256 := by
  unfold ishr
  rw [show (2 : Int) ^ (min (8 : Int).toNat IntKind.i64.bits) = 256 by decide]
  exact Int.fdiv_eq_ediv_of_nonneg _ (by decide)
theorem wput_loop {c : Nat} : ∀ (i m : Nat) (x : Int) (acc : Bs), i ≤ acc.length → acc.length ≤ 100 → i < m → 0 ≤ x → L_octet_Put_0 c m x ((i : Int) - 1) acc = some ((be i x ++ acc.drop i, true, ()), ())
  | 0, m, x, acc, h1, h2, hm, hx => by
    obtain ⟨m, rfl⟩ : ∃ k, m = k + 1 := ⟨m - 1, by omega⟩
    rw [L_octet_Put_0_eq, ifn (by omega)]; simp [be]
  | i + 1, m, x, acc, h1, h2, hm, hx => by
    obtain ⟨m, rfl⟩ : ∃ k, m = k + 1 := ⟨m - 1, by omega⟩
    have e : (((i + 1 : Nat) : Int) - 1) = (i : Int) := by omega
    rw [L_octet_Put_0_eq, e, ifd (by omega), if_pos (by omega), Int.toNat_natCast, if_pos (by omega), w64 (by omega) (by omega), ishr8w hx, wput_loop i m (x / 256) _ (by simp; omega) (by simp; omega) (by omega) (by omega), wu8, be]
    have : (acc.set i (u8of (x % 256))).drop i = u8of (x % 256) :: acc.drop (i + 1) := by
      rw [List.drop_eq_getElem_cons (by simp; omega), List.getElem_set_self, List.drop_set_of_lt (by omega)]
    rw [this]; simp
theorem wput_is {n : Int} {k : Nat} (hn : IntKind.has .i64 n) (h1 : 1 ≤ k) (h7 : k ≤ 7) : g_octet_Put (n, (k : Int), ()) = some (((oput n k).1, (oput n k).2, ()), ()) := by
  show h_octet_Put fuel (n, (k : Int), ()) = _
  rw [h_octet_Put_eq, fits_is hn h1 h7, Option.bind_some]
  unfold oput
  cases hf : fitsB n k with
  | false => rfl
  | true =>
    have h0 : 0 ≤ n := by unfold fitsB at hf; rw [decide_eq_true_eq] at hf; exact hf.1
    have hr : (k : Int) ≤ roomI := by unfold roomI; omega
    dsimp only
    rw [ifnt, if_pos ⟨by omega, hr⟩, w64 (by omega) (by omega), Int.toNat_natCast, wput_loop k fuel n _ (by simp) (by simp; omega) (fuel_ge (by omega)) h0]
    simp
theorem wput2 {n : Int} (hn : IntKind.has .i64 n) : g_octet_Put (n, 2, ()) = some (((oput n 2).1, (oput n 2).2, ()), ()) := wput_is (k := 2) hn (by omega) (by omega)
theorem oput_len2 {s : Bs} (h : s.length ≤ 65531) : oput (s.length : Int) 2 = (be 2 s.length, true) := by
  unfold oput; rw [if_pos (by unfold fitsB; rw [decide_eq_true_eq]; omega)]
theorem wrapF_long {s : Bs} (h : 65531 < (s.length : Int)) : wrapF s = ([], false) := by unfold wrapF; rw [if_pos h]
theorem wrapF_fit {s : Bs} (h : ¬ 65531 < (s.length : Int)) : wrapF s = (42 :: 2 :: (be 2 s.length ++ s), true) := by unfold wrapF; rw [if_neg h]
theorem wrap_is {s : Bs} (h : s.length ≤ 100000000) : g_frame_Wrap (s, ()) = some (((wrapF s).1, (wrapF s).2, ()), ()) := by
  rw [g_frame_Wrap_eq, wput2 (has64.2 (by omega)), Option.bind_some]
  by_cases hs : 65531 < (s.length : Int)
  · rw [wrapF_long hs]
    cases hb : (oput (s.length : Int) 2).2 with
    | false => rfl
    | true => dsimp only; rw [ifnt, ifd hs]
  · have h2 : (be 2 (s.length : Int)).length = 2 := be_length 2 _
    rw [wrapF_fit hs, oput_len2 (by omega)]
    generalize be 2 (s.length : Int) = B at *
    dsimp only
    rw [ifnt, ifn hs, if_pos (maxB_of (by omega)), if_pos (maxB_of (by simp; omega))]; rfl
end Go.VP
set_option linter.unusedVariables false
set_option linter.unusedSimpArgs false
set_option maxRecDepth 100000
namespace Go.VP
open Go Go.VI
def Tg (t : Tlv) : Prop := (0 ≤ t.type_ ∧ t.type_ ≤ 255) ∧ t.data.length ≤ 255
theorem GoodL.small {m : Msg} (g : GoodL m) : Small m := by
  have := g.good.few.list; have := g.good.few.subs; exact ⟨by omega, by omega⟩
theorem one_right {c : Ctx} {t : Tlv} (hc : okC c) (ht : Tg t) : ∀ m ∈ (oneR c t.type_ t.data).2.1, LeanR m ∧ GoodL m := by
  obtain ⟨ty, at_, d⟩ := t
  obtain ⟨ht, hd⟩ := ht
  have hd : d.length ≤ 255 := hd
  have ht : 0 ≤ ty ∧ ty ≤ 255 := ht
  have has0 : IntKind.has .i64 0 := has64.2 (by omega)
  have mt : ∀ m : Msg, FieldR m ∨ RouteR m → m.type_ = 0 ∧ m.metric = 0 := fun m h => by
    have key : ∀ x, bareB m = true → bareOf m = some x → x.type_ = 0 ∧ x.metric = 0 → m.type_ = 0 ∧ m.metric = 0 := fun x hb hx h0 => by
      rw [bareB, hx] at hb
      have := eqB_true.1 hb
      rw [← this]; exact h0
    rcases h with h | h
    · rcases h.kinds with hk | hk | ⟨hk, _⟩ | ⟨hk, _⟩
      · exact key _ h.bare (by unfold bareOf; rw [hk]; rfl) ⟨rfl, rfl⟩
      · exact key _ h.bare (by unfold bareOf; rw [hk]; rfl) ⟨rfl, rfl⟩
      · exact key _ h.bare (by unfold bareOf; rw [hk]; rfl) ⟨rfl, rfl⟩
      · exact key _ h.bare (by unfold bareOf; rw [hk]; rfl) ⟨rfl, rfl⟩
    · rcases h.kinds with hk | ⟨hk, _⟩
      · exact key _ h.bare (by unfold bareOf; rw [hk]; rfl) ⟨rfl, rfl⟩
      · exact key _ h.bare (by unfold bareOf; rw [hk]; rfl) ⟨rfl, rfl⟩
  intro m hm
  dsimp only at hm
  unfold oneR at hm
  split at hm
  · cases hm
  split at hm
  · unfold stepC at hm
    split at hm
    · cases hm
    split at hm
    · cases hm
    split at hm
    · rcases updF_cases (d := d) hc (by omega) with h | ⟨x, h, hu, hg, _⟩
      · rw [h] at hm; cases hm
      · rw [h, List.mem_singleton] at hm; subst hm; exact ⟨.upd hu, hg⟩
    · cases hm
  split at hm
  · rename_i h25
    rcases fieldG_cases (ty := ty) (d := d) h25 (by omega) with ⟨x, h, hr, hg, _⟩ | ⟨e, h⟩
    · rw [h] at hm
      have : m = x := by unfold resF at hm; simpa using hm
      subst this
      have := mt m (.inl hr)
      exact ⟨.field hr, ⟨hg, by rw [this.1]; exact has0, by rw [this.2]; exact has0⟩⟩
    · rw [h] at hm
      unfold resF at hm
      split at hm
      · cases hm
      · cases hm
  split at hm
  · rename_i h910
    rcases routeG_cases (ty := ty) (d := d) h910 (by omega) with ⟨x, h, hr, hg, _⟩ | ⟨e, h⟩
    · rw [h] at hm
      have : m = x := by unfold resF at hm; simpa using hm
      subst this
      have := mt m (.inr hr)
      exact ⟨.route hr, ⟨hg, by rw [this.1]; exact has0, by rw [this.2]; exact has0⟩⟩
    · rw [h] at hm
      unfold resF at hm
      split at hm
      · cases hm
      · cases hm
  · rw [List.mem_singleton] at hm
    subst hm
    have e0 : ([] : Bs).length ≤ 400 := by decide
    have n0 : ([] : List Dest).length ≤ 1000 := by decide
    have hb : bareOf (opaqueM ty d) = some (opaqueM ty d) := rfl
    refine ⟨.opq ⟨rfl, by rw [bareB, hb]; exact eqB_refl _, by show 10 < ty ∧ ty < 256; omega, by show d.length < 256; omega⟩, ⟨⟨⟨n0, by show 0 ≤ 1000; omega, e0, e0, e0, e0, e0, e0, by show d.length ≤ 400; omega, (fun d h => by cases h), (fun d h => by cases h)⟩, has0, has0, has0, has0, has64.2 (by show _ ≤ (14 : Int) ∧ (14 : Int) ≤ _; omega), has0, has0, has0, has0⟩, has64.2 (by show _ ≤ ty ∧ ty ≤ _; omega), has0⟩⟩
theorem fold_right {l : List Tlv} {c : Ctx} (hc : okC c) (hl : ∀ t ∈ l, Tg t) : ∀ m ∈ (foldR c l []).1, LeanR m ∧ GoodL m :=
  foldR_all (P := fun m => LeanR m ∧ GoodL m) (Q := Tg) (fun c t hc ht => one_right hc ht) l c [] hc hl (fun m hm => by cases hm)
theorem spl_tg (s : Bs) : ∀ (p : Int) (l : List Tlv), spl p s = .ok l → ∀ t ∈ l, Tg t := by
  induction h : s.length using Nat.strongRecOn generalizing s with
  | ind n ih =>
    intro p l hs
    subst h
    match s, hs with
    | [], hs => rw [spl_nil] at hs; cases hs; intro t ht; cases ht
    | t :: r, hs =>
      by_cases ht : t = 0
      · subst ht
        rw [spl_zero] at hs
        cases hr : spl (p + 1) r with
        | error q => rw [hr] at hs; cases hs
        | ok lr =>
          rw [hr] at hs; cases hs
          intro x hx
          rcases List.mem_cons.1 hx with rfl | hx
          · exact ⟨by show (0 : Int) ≤ 0 ∧ (0 : Int) ≤ 255; omega, by show 0 ≤ 255; omega⟩
          · exact ih r.length (by simp) r rfl _ lr hr x hx
      · match r, hs with
        | [], hs => rw [spl_one ht] at hs; cases hs
        | n :: d, hs =>
          by_cases hn : d.length < n.toNat
          · rw [spl_bad ht hn] at hs; cases hs
          · rw [spl_all ht (by omega)] at hs
            cases hr : spl (p + 2 + n.toNat) (d.drop n.toNat) with
            | error q => rw [hr] at hs; cases hs
            | ok lr =>
              rw [hr] at hs; cases hs
              intro x hx
              rcases List.mem_cons.1 hx with rfl | hx
              · have h1 := t.toNat_lt
                have h2 := n.toNat_lt
                refine ⟨by show (0 : Int) ≤ (t.toNat : Int) ∧ (t.toNat : Int) ≤ 255; omega, ?_⟩
                show (d.take n.toNat).length ≤ 255
                rw [List.length_take]; omega
              · exact ih (d.drop n.toNat).length (by simp; omega) (d.drop n.toNat) rfl _ lr hr x hx
def parseI (b : Bs) : List Msg × Int × Int :=
  if (bodyF b).2.2 ≠ 0 then ([], (bodyF b).2.1, (bodyF b).2.2)
  else match spl 4 (bodyF b).1 with
    | .error q => ([], q, 2)
    | .ok l => match spl (4 + ((bodyF b).1.length : Int)) (behF b) with
      | .error q => ([], q, 2)
      | .ok _ => ((foldR c0 l []).1, (foldR c0 l []).2.2.1, (foldR c0 l []).2.2.2)
theorem parseI_cases (b : Bs) : ((parseI b).2.2 ≠ 0 ∧ (parseI b).1 = []) ∨ ∃ l, (bodyF b).2.2 = 0 ∧ spl 4 (bodyF b).1 = .ok l ∧ (∃ k, spl (4 + ((bodyF b).1.length : Int)) (behF b) = .ok k) ∧ (foldR c0 l []).2.2.2 = 0 ∧ parseI b = ((foldR c0 l []).1, 0, 0) := by
  unfold parseI
  by_cases h : (bodyF b).2.2 ≠ 0
  · rw [if_pos h]; exact .inl ⟨h, rfl⟩
  rw [if_neg h]
  cases h1 : spl 4 (bodyF b).1 with
  | error q => exact .inl ⟨by simp, rfl⟩
  | ok l =>
    cases h2 : spl (4 + ((bodyF b).1.length : Int)) (behF b) with
    | error q => exact .inl ⟨by simp, rfl⟩
    | ok k =>
      dsimp only
      by_cases h3 : (foldR c0 l []).2.2.2 = 0
      · exact .inr ⟨l, by simpa using h, rfl, ⟨k, rfl⟩, h3, by rw [foldR_fine l c0 [] h3, h3]⟩
      · exact .inl ⟨h3, (foldR_err l c0 [] h3).1⟩
theorem parseI_right (b : Bs) : (∀ m ∈ (parseI b).1, LeanR m ∧ GoodL m) ∧ (parseI b).1.length ≤ 65535 := by
  rcases parseI_cases b with ⟨_, h⟩ | ⟨l, h0, h1, _, _, h4⟩
  · rw [h]; exact ⟨fun m hm => (by cases hm), by simp⟩
  · rw [h4]
    have hb := (bodyF_ok h0)
    have hr := sizeB_rng b
    have := (foldR_len l c0 [] okC_c0).1
    have hk := (spl_ok _ _ _ h1).2
    exact ⟨fold_right okC_c0 (spl_tg _ _ _ h1), by dsimp only; simp at this; omega⟩
end Go.VP
set_option linter.unusedVariables false
set_option linter.unusedSimpArgs false
set_option maxRecDepth 100000
namespace Go.VP
open Go Go.VI
theorem either_is (s : Bs) (g : Bool) : g_ctx_either (s, g, ()) = some ((decide (s = []) || g, ()), ()) := by
  rw [g_ctx_either_eq]
  refine be_step (fun h => by simp [h]) (fun h => by simp [h])
theorem nb_and {R : Type} {b S : Bool} {t : Option R} {f : Bool → Option R} (h : b = true → t = f S) : (if (!b) = true then f false else t) = f (b && S) := by
  cases b with
  | true => rw [ifnt, Bool.true_and]; exact h rfl
  | false => rw [ifnf, Bool.false_and]
theorem fits2 {n : Int} (hn : IntKind.has .i64 n) : g_octet_Fits (n, 2, ()) = some ((fitsB n 2, ()), ()) := fits_is (k := 2) hn (by omega) (by omega)
theorem fewS_of {m : Msg} (g : GoodM m) : FewS m.subs := g.few.fewS
theorem cright_is {m : Msg} (g : GoodL m) : g_ctx_Right (m, ()) = some ((updB m, ()), ()) := by
  have hl := g.good.few
  have := hl.id; have := hl.next; have := hl.pre
  rw [g_ctx_Right_eq]
  unfold updB
  refine ne_step (fun h => by rw [decide_eq_false h, Bool.false_and]) (fun h => ?_)
  rw [decide_eq_true h, Bool.true_and, bare_is, Option.bind_some]
  dsimp only
  refine nb_and (f := fun b => some ((b, ()), ())) (fun _ => ?_)
  rw [sright_is (fewS_of g.good), Option.bind_some]
  refine nb_and (f := fun b => some ((b, ()), ())) (fun _ => ?_)
  rw [in_is (by omega) g.good.plen, Option.bind_some]
  refine nb_and (f := fun b => some ((b, ()), ())) (fun _ => ?_)
  rw [fits2 g.good.interval, Option.bind_some]
  refine nb_and (f := fun b => some ((b, ()), ())) (fun _ => ?_)
  rw [fits2 g.good.seq, Option.bind_some]
  refine nb_and (f := fun b => some ((b, ()), ())) (fun _ => ?_)
  rw [fits2 g.metric, Option.bind_some]
  refine nb_and (f := fun b => some ((b, ()), ())) (fun _ => ?_)
  unfold tailB
  refine bq_step (fun h => ?_) (fun h => ?_)
  · rw [if_pos h, if_pos (maxB_of (by omega))]
    have : (m.id ++ m.next == ([] : Bs)) = (m.id == [] && m.next == []) := by
      rw [Bool.eq_iff_iff]; simp
    rw [this]
  · rw [if_neg h]
    by_cases ha : 0 < m.ae
    · rw [ifd ha, decide_eq_true ha, Bool.true_and, len8]
      cases h8 : decide (m.id.length = 8) with
      | false => rw [iff_, Bool.false_and]
      | true =>
        rw [ift, fam_is, Option.bind_some, cfam_is, Option.bind_some, either_is, Option.bind_some, Bool.true_and]
        have e1 : (m.next == ([] : Bs)) = decide (m.next = []) := by rw [Bool.eq_iff_iff]; simp
        have e2 : (famF m.next == famE m.ae) = decide (famF m.next = famE m.ae) := by rw [Bool.eq_iff_iff]; simp
        rw [e1]
        dsimp only
        rw [e2]
    · rw [ifn ha, decide_eq_false ha, Bool.false_and]
theorem goodL {m : Msg} (g : Good_api_Msg m) (h : Lite m) : GoodL m := by
  obtain ⟨g1, g2, g3, g4, g5, g6, g7, g8, g9, g10, g11, g12, g13, g14, g15, g16, g17, g18, g19, g20, g21, g22, g23, _⟩ := g
  exact ⟨⟨h, g18, g15, g13, g19, g1, g16, g6, g8, g17⟩, g23, g11⟩
end Go.VP
set_option linter.unusedVariables false
set_option linter.unusedSimpArgs false
set_option maxRecDepth 100000
namespace Go.VP
open Go Go.VI
def len8T : List UInt8 := [0] ++ List.replicate 1 1 ++ List.replicate 2 2 ++ List.replicate 4 3 ++ List.replicate 8 4 ++ List.replicate 16 5 ++ List.replicate 32 6 ++ List.replicate 64 7 ++ List.replicate 128 8
theorem len8T_ok : ∀ x : Fin 256, x.val ≠ 0 → ∃ y, len8T[x.val]? = some y ∧ 1 ≤ y.toNat ∧ y.toNat ≤ 8 := by
  have h : ∀ x : Fin 256, x.val ≠ 0 → 1 ≤ (len8T[x.val]?.getD 0).toNat ∧ (len8T[x.val]?.getD 0).toNat ≤ 8 := by decide +kernel
  have hl : len8T.length = 256 := by decide +kernel
  intro x hx
  refine ⟨len8T[x.val]?.getD 0, get_bt (by omega), h x hx⟩
theorem len8_eq (a0 : Int) : g_math_bits_Len8 (a0, ()) = if 0 ≤ a0 then len8T[a0.toNat]?.bind fun (y1 : UInt8) => some (((IntKind.wrap .i64 (y1.toNat : Int)), ()), ()) else none := g_math_bits_Len8_eq a0
theorem lz8_is {n : Nat} (h0 : n ≠ 0) (h : n < 256) : ∃ z : Int, g_math_bits_LeadingZeros8 ((n : Int), ()) = some ((z, ()), ()) ∧ 0 ≤ z ∧ z ≤ 7 := by
  obtain ⟨y, h1, h2, h3⟩ := len8T_ok ⟨n, h⟩ h0
  have h1 : len8T[n]? = some y := h1
  rw [g_math_bits_LeadingZeros8_eq, len8_eq, if_pos (by omega), Int.toNat_natCast, h1, Option.bind_some, Option.bind_some]
  dsimp only
  rw [w64n, w64 (by omega) (by omega)]
  exact ⟨_, rfl, by omega, by omega⟩
theorem xor_ne {a b : UInt8} : (ibits .xor .u8 (a.toNat : Int) (b.toNat : Int) ≠ 0) ↔ a ≠ b := by
  rw [ib8_xor a.toNat_lt b.toNat_lt]
  constructor
  · intro h e; subst e; simp at h
  · intro h e
    have h0 : a.toNat ^^^ b.toNat = 0 := by omega
    exact h (UInt8.toNat.inj (by
      have := congrArg (· ^^^ b.toNat) h0
      simpa [Nat.xor_assoc] using this))
theorem leadN_nil {x y : Bs} (h : x = [] ∨ y = []) : leadN x y = 0 := by
  rcases h with rfl | rfl
  · cases y <;> rfl
  · cases x <;> rfl
theorem alike_loop {a b : Bs} {n : Nat} (ha : a.length ≤ 100000) (hb : b.length ≤ 100000) : ∀ (d m i : Nat), i + d = min a.length b.length → d < m → ∃ A : Int, L_bits_Alike_0 n m a b (if (b.length : Int) < (a.length : Int) then (b.length : Int) else (a.length : Int)) i = some ((A, ()), ()) ∧ A / 8 = i + leadN (a.drop i) (b.drop i) ∧ 0 ≤ A ∧ A ≤ 10000000 := by
  have hmin : (if (b.length : Int) < (a.length : Int) then (b.length : Int) else (a.length : Int)) = ((min a.length b.length : Nat) : Int) := by split <;> omega
  rw [hmin]
  intro d
  induction d with
  | zero =>
    intro m i hd hm
    obtain ⟨m, rfl⟩ : ∃ k, m = k + 1 := ⟨m - 1, by omega⟩
    rw [L_bits_Alike_0_eq, ifn (by omega), hmin, w64 (by omega) (by omega)]
    refine ⟨_, rfl, ?_, by omega, by omega⟩
    rw [leadN_nil (by
      by_cases h : a.length ≤ b.length
      · exact .inl (List.drop_eq_nil_of_le (by omega))
      · exact .inr (List.drop_eq_nil_of_le (by omega)))]
    omega
  | succ d ih =>
    intro m i hd hm
    obtain ⟨m, rfl⟩ : ∃ k, m = k + 1 := ⟨m - 1, by omega⟩
    have hp : 0 ≤ (i : Int) := by omega
    have hi : i < a.length := by omega
    have hib : i < b.length := by omega
    rw [L_bits_Alike_0_eq, ifd (by omega)]
    simp only [if_pos hp, Int.toNat_natCast, List.getElem?_eq_getElem hi, List.getElem?_eq_getElem hib, Option.bind_some]
    rw [List.drop_eq_getElem_cons hi, List.drop_eq_getElem_cons hib, leadN]
    by_cases he : a[i] = b[i]
    · obtain ⟨A, h1, h2, h3, h4⟩ := ih m (i + 1) (by omega) (by omega)
      rw [show ((i + 1 : Nat) : Int) = (i : Int) + 1 by omega] at h1 h2
      have hz : ibits .xor .u8 ((a[i]).toNat : Int) ((b[i]).toNat : Int) = 0 := Classical.byContradiction fun h => xor_ne.1 h he
      rw [if_pos he, hz, if_neg (by decide), w64 (by omega) (by omega)]
      exact ⟨A, h1, by omega, h3, h4⟩
    · have hz := xor_ne.2 he
      rw [if_neg he, if_pos (by simpa using hz)]
      rw [ib8_xor (a[i]).toNat_lt (b[i]).toNat_lt] at hz ⊢
      have hx : (a[i]).toNat ^^^ (b[i]).toNat < 256 := Nat.xor_lt_two_pow (n := 8) (a[i]).toNat_lt (b[i]).toNat_lt
      obtain ⟨z, k1, k2, k3⟩ := lz8_is (n := (a[i]).toNat ^^^ (b[i]).toNat) (by omega) hx
      rw [k1, Option.bind_some]
      dsimp only
      rw [w64 (x := 8 * (i : Int)) (by omega) (by omega), w64 (by omega) (by omega)]
      exact ⟨_, rfl, by omega, by omega, by omega⟩
theorem lead_is {a b : Bs} (ha : a.length ≤ 100000) (hb : b.length ≤ 100000) : g_prefix_Lead (a, b, ()) = some ((((leadN a b : Nat) : Int), ()), ()) := by
  have hA : ∃ A : Int, g_bits_Alike (a, b, ()) = some ((A, ()), ()) ∧ A / 8 = leadN a b ∧ 0 ≤ A := by
    show ∃ A : Int, h_bits_Alike fuel (a, b, ()) = _ ∧ _
    rw [h_bits_Alike_eq]
    obtain ⟨A, h1, h2, h3, _⟩ := alike_loop (n := fuel) ha hb (min a.length b.length) fuel 0 (by omega) (fuel_ge (by omega))
    exact ⟨A, h1, by simpa using h2, h3⟩
  obtain ⟨A, h1, h2, h3⟩ := hA
  rw [g_prefix_Lead_eq, h1, Option.bind_some]
  dsimp only
  rw [ishr3 h3, h2]
end Go.VP
set_option linter.unusedVariables false
set_option linter.unusedSimpArgs false
set_option maxRecDepth 100000
namespace Go.VP
open Go Go.VI
noncomputable def opqB (m : Msg) : Bool := bareB m && (decide (10 < m.type_) && (decide (m.type_ < 256) && decide (m.data.length < 256)))
noncomputable def leanB (m : Msg) : Bool := if m.kind = 11 then updB m else if m.kind = 12 ∨ m.kind = 13 then routeB m else if m.kind = 14 then opqB m else fieldB m
noncomputable def otherF (m : Msg) : Bs := if m.kind = 12 ∨ m.kind = 13 then (routePut m).1 else if m.kind = 14 then (tput m.type_ m.data).1 else (fieldPut m).1
theorem fieldB_kind {m : Msg} (h : fieldB m = true) : 7 ≤ m.kind ∧ m.kind ≤ 10 := by
  rcases (fieldR_iff.1 h).kinds with h | h | ⟨h, _⟩ | ⟨h, _⟩ <;> omega
theorem routeB_kind {m : Msg} (h : routeB m = true) : m.kind = 12 ∨ m.kind = 13 := by
  rcases (routeR_iff.1 h).kinds with h | ⟨h, _⟩
  · exact .inl h
  · exact .inr h
theorem opqR_iff {m : Msg} (hk : m.kind = 14) : opqB m = true ↔ OpqR m := by
  unfold opqB
  simp only [Bool.and_eq_true, decide_eq_true_eq]
  exact ⟨fun ⟨a, b, c, d⟩ => ⟨hk, a, ⟨b, c⟩, d⟩, fun h => ⟨h.bare, h.ty.1, h.ty.2, h.len⟩⟩
theorem leanR_iff {m : Msg} : leanB m = true ↔ LeanR m := by
  unfold leanB
  constructor
  · intro h
    split at h
    · exact .upd (updR_iff.1 h)
    split at h
    · exact .route (routeR_iff.1 h)
    split at h
    · rename_i hk; exact .opq ((opqR_iff hk).1 h)
    · exact .field (fieldR_iff.1 h)
  · intro h
    cases h with
    | field h =>
      have hb := fieldR_iff.2 h
      have := fieldB_kind hb
      rw [if_neg (by omega), if_neg (by omega), if_neg (by omega)]; exact hb
    | route h =>
      have hb := routeR_iff.2 h
      have := routeB_kind hb
      rw [if_neg (by omega), if_pos this]; exact hb
    | upd h => rw [if_pos h.kind]; exact updR_iff.2 h
    | opq h => rw [if_neg (by have := h.kind; omega), if_neg (by have := h.kind; omega), if_pos h.kind]; exact (opqR_iff h.kind).2 h
theorem lright_is {m : Msg} (g : GoodL m) : g_lean_Right (m, ()) = some ((leanB m, ()), ()) := by
  have op : (if bareB m = true then (if (decide (10 < m.type_)) = true then (if (decide (m.type_ < 256)) = true then some (((decide ((m.data.length : Int) < 256)), ()), ()) else some ((false, ()), ())) else some ((false, ()), ())) else some ((false, ()), ())) = (some ((opqB m, ()), ()) : Option ((Bool × Unit) × Unit)) := by
    unfold opqB
    have e : decide ((m.data.length : Int) < 256) = decide (m.data.length < 256) := by rw [Bool.eq_iff_iff]; simp; omega
    rw [e]
    cases bareB m
    · rfl
    cases decide (10 < m.type_)
    · rfl
    cases decide (m.type_ < 256)
    · rfl
    · rfl
  rw [g_lean_Right_eq, cright_is g, rtright_is g.good, bare_is, right_is g.good]
  simp only [Option.bind_some, op]
  unfold leanB
  refine bq_step (fun h => by rw [if_pos h]) (fun h => ?_)
  rw [if_neg h]
  refine bq_step (fun h2 => ?_) (fun h2 => ?_)
  · rw [if_pos (by simp [h2]), if_pos (.inl h2)]
  · refine bq_step (fun h3 => by rw [if_pos (.inr h3)]) (fun h3 => ?_)
    rw [if_neg (show ¬ (m.kind = 12 ∨ m.kind = 13) by omega)]
    exact bq_step (fun h4 => by rw [if_pos h4]) (fun h4 => by rw [if_neg h4])
theorem other_is {m : Msg} (g : GoodL m) : g_lean_other (m, ()) = some ((otherF m, ()), ()) := by
  rw [g_lean_other_eq, rtput_is' g.good, tput_is, put_is g.good]
  simp only [Option.bind_some]
  unfold otherF
  refine bq_step (fun h2 => ?_) (fun h2 => ?_)
  · rw [if_pos (by simp [h2]), if_pos (.inl h2)]
  · refine bq_step (fun h3 => by rw [if_pos (.inr h3)]) (fun h3 => ?_)
    rw [if_neg (show ¬ (m.kind = 12 ∨ m.kind = 13) by omega)]
    exact bq_step (fun h4 => by rw [if_pos h4]) (fun h4 => by rw [if_neg h4])
def idT (s : Bs) : Bs := (tput 6 (idD s)).1
def hopT (a : Bs) : Bs := (tput 7 (hopD a)).1
def updT (m : Msg) (n : Nat) : Bs := (tput 8 (updD m n)).1
theorem tput_len (t : Int) (d : Bs) : (tput t d).1.length ≤ 257 := by unfold tput; split <;> simp; omega
abbrev mkW (b : Bs) (c : Ctx) : S_lean_writer := ⟨b, c.prefix_c0, c.prefix_c1, c.prefix_c2, c.prefix_c3, c.next_c0, c.next_c1, c.id⟩
theorem lput_is {b d : Bs} {c : Ctx} {t : Int} (hb : b.length ≤ 10000) : g_lean_writer_put (mkW b c, t, d, ()) = some ((), (mkW (b ++ (tput t d).1) c, ())) := by
  have := tput_len t d
  rw [g_lean_writer_put_eq, tput_is, Option.bind_some]
  dsimp only
  rw [if_pos (roomB_of (by omega))]
theorem lid_is {b s : Bs} {c : Ctx} (hb : b.length ≤ 10000) (hs : s.length ≤ 10000) : g_lean_writer_id (mkW b c, s, ()) = some ((), (mkW (b ++ idT s) (setId c s), ())) := by
  rw [g_lean_writer_id_eq, if_pos (maxB_of (by omega)), lput_is hb, Option.bind_some]; rfl
theorem lhop_is {b a : Bs} {c : Ctx} {f : Int} (hb : b.length ≤ 10000) (h : (f = 0 ∧ a.length = 4) ∨ (f = 1 ∧ a.length = 16)) : g_lean_writer_hop (mkW b c, f, a, ()) = some ((), (mkW (b ++ hopT a) (setN c f a), ())) := by
  have hf : 0 ≤ f ∧ f < 2 := by omega
  have hal : a.length ≤ 16 := by omega
  rw [g_lean_writer_hop_eq, short_is, Option.bind_some]
  unfold hopT hopD shortF
  by_cases hl : linkB a = true
  · rw [if_pos hl, if_pos hl]
    dsimp only
    rw [ift, if_pos (maxB_of (by simp; omega)), lput_is hb, Option.bind_some, if_pos hf]; rfl
  · rw [if_neg hl, if_neg hl]
    dsimp only
    rw [iff_]
    rcases h with ⟨rfl, h⟩ | ⟨rfl, h⟩
    · rw [if_pos (by decide), if_pos (maxB_of (by omega)), lput_is hb, Option.bind_some, if_pos hf, if_pos h]; rfl
    · rw [if_neg (by decide), if_pos (maxB_of (by omega)), lput_is hb, Option.bind_some, if_pos hf, if_neg (show ¬ a.length = 4 by omega)]; rfl
theorem lbase_is {ae : Int} (h : 0 ≤ ae ∧ ae < 4) : g_lean_base (ae, ()) = some ((baseA ae, ()), ()) := by
  rw [g_lean_base_eq]
  rcases ae_cases h with rfl | rfl | rfl | rfl <;> rfl
theorem UpdR.cutl {m : Msg} (h : UpdR m) : ((cutF m.prefix_ m.plen).length : Int) = leastF m.plen ∧ baseA m.ae ≤ leastF m.plen ∧ 0 ≤ baseA m.ae := by
  have r := h.asR
  obtain ⟨l1, l2, l3, l4, l5, l6⟩ := least_base r.ae r.plen
  exact ⟨r.cut.1, l2, l1⟩
theorem lbytes_is {m : Msg} (h : UpdR m) : g_lean_bytes (m, ()) = some ((bytesP m, ()), ()) := by
  obtain ⟨hae, hpl, hbl, h16, hbs, hp16⟩ := h.pre
  obtain ⟨c1, c2, c3⟩ := h.cutl
  rw [g_lean_bytes_eq, pcut_is (by omega) (has64.2 (by omega)) (by omega), Option.bind_some, lbase_is hae, Option.bind_some]
  dsimp only
  rw [if_pos (by omega)]; rfl
def leadC (c : Ctx) (m : Msg) : Nat := if preC c m.ae = [] then 0 else leadN ((preC c m.ae).drop (baseA m.ae).toNat) (bytesP m)
theorem leadC_le (c : Ctx) (m : Msg) : leadC c m ≤ (bytesP m).length := by
  unfold leadC; split
  · omega
  · exact (leadN_le _ _).2
theorem lom_is {b : Bs} {c : Ctx} {m : Msg} (hc : okC c) (h : UpdR m) : g_lean_writer_omitted (mkW b c, m, ()) = some ((((leadC c m : Nat) : Int), ()), (mkW b c, ())) := by
  obtain ⟨hae, hpl, hbl, h16, hbs, hp16⟩ := h.pre
  have hpre : (if m.ae = 0 then c.prefix_c0 else (if m.ae = 1 then c.prefix_c1 else (if m.ae = 2 then c.prefix_c2 else c.prefix_c3))) = preC c m.ae := rfl
  rw [g_lean_writer_omitted_eq, if_pos hae]
  dsimp only
  rw [hpre]
  unfold leadC
  refine be_step (fun hq => by rw [if_pos hq]; rfl) (fun hq => ?_)
  have hl := preC_len hc hae hq
  have hsz : szA m.ae ≤ 16 ∧ baseA m.ae ≤ szA m.ae := by unfold szA baseA; refine ⟨?_, ?_⟩ <;> (split <;> (try split) <;> (try split) <;> omega)
  rw [if_neg hq, lbase_is hae, Option.bind_some]
  dsimp only
  rw [if_pos (by omega), lbytes_is h, Option.bind_some]
  dsimp only
  rw [lead_is (by simp; omega) (by omega), Option.bind_some]
theorem lloop1 {m : Msg} {n k : Nat} {N : Nat} {x0 x1 x2 : Int} {w : S_lean_writer} {p0 p1 p2 p3 x6 : Bs} (hx : x6.length ≤ 100) (hs : rightB m.subs = true) (hfs : FewS m.subs) (hB : g_lean_bytes (m, ()) = some ((bytesP m, ()), ())) (hBl : (bytesP m).length ≤ 16) (hN : N ≤ (bytesP m).length) (hw : w.b.length ≤ 10000) :
    L_lean_writer_update_1 n (k + 1) N m [x0, x1, x2] 3 w p0 p1 p2 p3 x6 3 = some ((), (mkW (w.b ++ (tput 8 ((x6 ++ (bytesP m).drop N) ++ encS m.subs)).1) ⟨p0, p1, p2, p3, w.c_Next_c0, w.c_Next_c1, w.c_Id⟩, ())) := by
  have hsl := encS_small hs
  rw [L_lean_writer_update_1_eq, ifn (by omega), sput_is hfs (by have := hfs.1; have := (rightB_split hs).2; have := sub_len (l := m.subs); omega), Option.bind_some, putS_r hs, hB, Option.bind_some]
  dsimp only
  rw [if_pos (by omega), Int.toNat_natCast, if_pos (maxB_of (by simp; omega)), if_pos (maxB_of (by simp; omega))]
  have := lput_is (b := w.b) (d := (x6 ++ (bytesP m).drop N) ++ encS m.subs) (c := ⟨p0, p1, p2, p3, w.c_Next_c0, w.c_Next_c1, w.c_Id⟩) (t := 8) hw
  rw [this]; rfl
theorem lupd_core {m : Msg} {n k : Nat} {N : Nat} {w : S_lean_writer} {p0 p1 p2 p3 x6 : Bs} (h : UpdR m) (hx : x6.length ≤ 50) (hfs : FewS m.subs) (hN : N ≤ (bytesP m).length) (hw : w.b.length ≤ 10000) :
    L_lean_writer_update_0 n (k + 4) N m w x6 [m.interval, m.seq, m.metric] 3 0 p0 p1 p2 p3 = some ((), (mkW (w.b ++ (tput 8 (x6 ++ (be 2 m.interval ++ (be 2 m.seq ++ (be 2 m.metric ++ ((bytesP m).drop N ++ encS m.subs)))))).1) ⟨p0, p1, p2, p3, w.c_Next_c0, w.c_Next_c1, w.c_Id⟩, ())) := by
  obtain ⟨hae, hpl, hbl, h16, hbs, hp16⟩ := h.pre
  have b2 : ∀ x, (be 2 x).length = 2 := fun x => be_length 2 x
  rw [L_lean_writer_update_0_eq, ifd (by omega), if_pos (by omega)]
  show (if roomB _ = true then L_lean_writer_update_1 n (k + 3) N m [m.interval, m.seq, m.metric] 3 w p0 p1 p2 p3 (x6 ++ ([u8of (IntKind.wrap .u8 (ishr .i64 m.interval 8)), u8of (IntKind.wrap .u8 m.interval)])) 1 else none) = _
  rw [if_pos (roomB_of (by simp; omega)), be2 h.iv, L_lean_writer_update_1_eq, ifd (by omega), if_pos (by omega)]
  show (if roomB _ = true then L_lean_writer_update_1 n (k + 2) N m [m.interval, m.seq, m.metric] 3 w p0 p1 p2 p3 ((x6 ++ be 2 m.interval) ++ ([u8of (IntKind.wrap .u8 (ishr .i64 m.seq 8)), u8of (IntKind.wrap .u8 m.seq)])) 2 else none) = _
  rw [if_pos (roomB_of (by simp [b2]; omega)), be2 h.sq, L_lean_writer_update_1_eq, ifd (by omega), if_pos (by omega)]
  show (if roomB _ = true then L_lean_writer_update_1 n (k + 1) N m [m.interval, m.seq, m.metric] 3 w p0 p1 p2 p3 (((x6 ++ be 2 m.interval) ++ be 2 m.seq) ++ ([u8of (IntKind.wrap .u8 (ishr .i64 m.metric 8)), u8of (IntKind.wrap .u8 m.metric)])) 3 else none) = _
  rw [if_pos (roomB_of (by simp [b2]; omega)), be2 h.me, lloop1 (by simp [b2]; omega) h.subs hfs (lbytes_is h) h16 hN hw]
  simp only [List.append_assoc]
theorem lupd_is {b : Bs} {c : Ctx} {m : Msg} {N : Nat} (h : UpdR m) (hfs : FewS m.subs) (hN : N ≤ (bytesP m).length) (hb : b.length ≤ 10000) : g_lean_writer_update (mkW b c, m, (N : Int), ()) = some ((), (mkW (b ++ updT m N) (setP c m.ae m.prefix_), ())) := by
  obtain ⟨hae, hpl, hbl, h16, hbs, hp16⟩ := h.pre
  obtain ⟨k, hk⟩ : ∃ k, fuel = k + 4 := by obtain ⟨q, e⟩ := fuel_pos; exact ⟨q + 999999999996, e⟩
  have u1 : u8of (IntKind.wrap .u8 m.ae) = u8of m.ae := u8w hae.1
  have u2 : u8of (IntKind.wrap .u8 m.plen) = u8of m.plen := u8w hpl.1
  have u3 : u8of (IntKind.wrap .u8 (N : Int)) = u8of N := u8w (by omega)
  show h_lean_writer_update fuel (mkW b c, m, (N : Int), ()) = _
  rw [h_lean_writer_update_eq, u1, u2, u3]
  generalize hf : (fuel : Nat) = F
  rw [hf] at hk
  unfold updT updD setP flagU
  have hx : ([u8of m.ae, 128, u8of m.plen, u8of N] : Bs).length ≤ 50 := by simp
  refine bq_step (fun h0 => ?_) (fun h0 => ?_)
  · rw [if_pos (by simp), if_pos (by simp), if_pos h0, if_pos h0]
    have := lupd_core (n := F) (k := k) (N := N) (w := mkW b c) (p0 := c.prefix_c0) (p1 := c.prefix_c1) (p2 := c.prefix_c2) (p3 := c.prefix_c3) (x6 := ([u8of m.ae, 128, u8of m.plen, u8of N] : Bs).set 1 (u8of 0)) h (by simp) hfs hN hb
    rw [← hk] at this
    exact this
  · rw [if_pos hae, if_neg h0, if_neg h0]
    have := lupd_core (n := F) (k := k) (N := N) (w := mkW b c) (p0 := if m.ae = 0 then m.prefix_ else c.prefix_c0) (p1 := if m.ae = 1 then m.prefix_ else c.prefix_c1) (p2 := if m.ae = 2 then m.prefix_ else c.prefix_c2) (p3 := if m.ae = 3 then m.prefix_ else c.prefix_c3) (x6 := [u8of m.ae, 128, u8of m.plen, u8of N]) h hx hfs hN hb
    rw [← hk, if_neg h0] at this
    rw [if_neg h0]
    exact this
def headL (c : Ctx) (m : Msg) : Bs := if m.metric = 65535 then [] else (if m.id = c.id then [] else idT m.id) ++ (if m.next = nextC c (famE m.ae) then [] else hopT m.next)
def knownL (c : Ctx) (m : Msg) : Ctx := if m.metric = 65535 then c else setN (setId c m.id) (famE m.ae) m.next
noncomputable def putL (c : Ctx) (m : Msg) : Bs × Ctx × Int :=
  if leanB m = false then ([], c, 1) else if m.kind ≠ 11 then (otherF m, c, 0)
  else if m.metric ≠ 65535 ∧ m.next = [] ∧ nextC c (famE m.ae) ≠ [] then ([], c, 9)
  else (headL c m ++ updT m (leadC c m), setP (knownL c m) m.ae m.prefix_, 0)
noncomputable def plainL (m : Msg) : Bs × Bool :=
  if leanB m = false then ([], false) else if m.kind ≠ 11 then (otherF m, true)
  else ((if m.metric = 65535 then [] else idT m.id ++ (if m.next = [] then [] else hopT m.next)) ++ updT m 0, true)
theorem setId_same {c : Ctx} {i : Bs} (h : i = c.id) : setId c i = c := by subst h; rfl
theorem setN_same {c : Ctx} {f : Int} {a : Bs} (hf : f = 0 ∨ f = 1) (h : a = nextC c f) : setN c f a = c := by
  subst h
  rcases hf with rfl | rfl <;> rfl
theorem UpdR.fam {m : Msg} (h : UpdR m) (hm : m.metric ≠ 65535) : (famE m.ae = 0 ∨ famE m.ae = 1) ∧ (m.next ≠ [] → (famE m.ae = 0 ∧ m.next.length = 4) ∨ (famE m.ae = 1 ∧ m.next.length = 16)) := by
  have hn := h.near hm
  have hf := famE_rng (ae := m.ae) (by have := h.pre.1; omega)
  refine ⟨by omega, fun hne => ?_⟩
  exact famF_cases (by rcases hn.2.2 with q | q; exact absurd q hne; exact q) (by omega)
theorem ltail {b : Bs} {c : Ctx} {m : Msg} (hc : okC c) (h : UpdR m) (hfs : FewS m.subs) (hb : b.length ≤ 1000) :
    ((g_lean_writer_omitted (mkW b c, m, ())).bind fun r6 => ((g_lean_writer_update (r6.2.1, m, r6.1.1, ())).bind fun r7 => (some ((r7.2.1.b, (S_api_Ctx.mk r7.2.1.c_Prefix_c0 r7.2.1.c_Prefix_c1 r7.2.1.c_Prefix_c2 r7.2.1.c_Prefix_c3 r7.2.1.c_Next_c0 r7.2.1.c_Next_c1 r7.2.1.c_Id), 0, ()), ()) : Option ((Bs × Ctx × Int × Unit) × Unit)))) = some ((b ++ updT m (leadC c m), setP c m.ae m.prefix_, 0, ()), ()) := by
  rw [lom_is hc h, Option.bind_some]
  dsimp only
  rw [lupd_is h hfs (leadC_le c m) (by omega), Option.bind_some]
theorem okC_setId {c : Ctx} {i : Bs} (hc : okC c) (h : i.length = 8) : okC (setId c i) := ⟨hc.1, hc.2.1, hc.2.2.1, hc.2.2.2.1, hc.2.2.2.2.1, hc.2.2.2.2.2.1, .inr h⟩
theorem okC_setN {c : Ctx} {f : Int} {a : Bs} (hc : okC c) (h : (f = 0 ∧ a.length = 4) ∨ (f = 1 ∧ a.length = 16)) : okC (setN c f a) := by
  obtain ⟨h0, h1, h2, h3, h4, h5, h6⟩ := hc
  rcases h with ⟨rfl, h⟩ | ⟨rfl, h⟩
  · exact ⟨h0, h1, h2, h3, .inr h, h5, h6⟩
  · exact ⟨h0, h1, h2, h3, h4, .inr h, h6⟩
theorem idT_len (s : Bs) : (idT s).length ≤ 257 := tput_len _ _
theorem hopT_len (s : Bs) : (hopT s).length ≤ 257 := tput_len _ _
theorem lput_main {c : Ctx} {m : Msg} (hc : okC c) (g : GoodL m) : g_lean_Put (c, m, ()) = some (((putL c m).1, (putL c m).2.1, (putL c m).2.2, ()), ()) := by
  rw [g_lean_Put_eq, lright_is g, Option.bind_some]
  unfold putL
  dsimp only
  cases hl : leanB m with
  | false => rw [ifnf, if_pos rfl]
  | true =>
  have hR := leanR_iff.1 hl
  rw [ifnt, if_neg (show ¬ (true = false) by simp)]
  refine ne_step (fun hk => ?_) (fun hk => ?_)
  · rw [other_is g, Option.bind_some, if_pos hk]
  rw [if_neg (show ¬ (m.kind ≠ 11) from fun q => q hk)]
  have h : UpdR m := by
    cases hR with
    | field h => have := fieldB_kind (fieldR_iff.2 h); omega
    | route h => have := routeB_kind (routeR_iff.2 h); omega
    | upd h => exact h
    | opq h => have := h.kind; omega
  have hfs := fewS_of g.good
  unfold headL knownL
  refine ne_step (fun hm => ?_) (fun hm => ?_)
  rotate_left
  · rw [if_neg (show ¬ (m.metric ≠ 65535 ∧ m.next = [] ∧ nextC c (famE m.ae) ≠ []) from fun q => q.1 hm), if_pos hm, if_pos hm]
    exact ltail hc h hfs (by simp)
  have hn := h.near hm
  obtain ⟨hf, hop⟩ := h.fam hm
  have hf2 : 0 ≤ famE m.ae ∧ famE m.ae < 2 := by omega
  have hnx : (if famE m.ae = 0 then c.next_c0 else c.next_c1) = nextC c (famE m.ae) := rfl
  rw [cfam_is, Option.bind_some]
  dsimp only
  rw [hnx, if_neg hm, if_neg hm]
  simp only [if_pos hf2]
  have hil : m.id.length ≤ 10000 := by omega
  have nohop : ∀ (b : Bs) (k : Ctx), okC k → b.length ≤ 300 → nextC k (famE m.ae) = nextC c (famE m.ae) → m.next = nextC c (famE m.ae) → leadC k m = leadC c m →
      ((g_lean_writer_omitted (mkW b k, m, ())).bind fun r6 => ((g_lean_writer_update (r6.2.1, m, r6.1.1, ())).bind fun r7 => (some ((r7.2.1.b, (S_api_Ctx.mk r7.2.1.c_Prefix_c0 r7.2.1.c_Prefix_c1 r7.2.1.c_Prefix_c2 r7.2.1.c_Prefix_c3 r7.2.1.c_Next_c0 r7.2.1.c_Next_c1 r7.2.1.c_Id), 0, ()), ()) : Option ((Bs × Ctx × Int × Unit) × Unit)))) = some ((((b ++ []) ++ updT m (leadC c m)), setP (setN k (famE m.ae) m.next) m.ae m.prefix_, 0, ()), ()) := fun b k hk hb e1 e2 e3 => by
    rw [ltail hk h hfs (by omega), setN_same hf (by rw [e1]; exact e2), e3, List.append_nil]
  have wihop : ∀ (b : Bs) (k : Ctx), okC k → b.length ≤ 300 → m.next ≠ [] → leadC k m = leadC c m →
      ((g_lean_writer_hop (mkW b k, famE m.ae, m.next, ())).bind fun r5 => ((g_lean_writer_omitted (r5.2.1, m, ())).bind fun r6 => ((g_lean_writer_update (r6.2.1, m, r6.1.1, ())).bind fun r7 => (some ((r7.2.1.b, (S_api_Ctx.mk r7.2.1.c_Prefix_c0 r7.2.1.c_Prefix_c1 r7.2.1.c_Prefix_c2 r7.2.1.c_Prefix_c3 r7.2.1.c_Next_c0 r7.2.1.c_Next_c1 r7.2.1.c_Id), 0, ()), ()) : Option ((Bs × Ctx × Int × Unit) × Unit))))) = some ((((b ++ hopT m.next) ++ updT m (leadC c m)), setP (setN k (famE m.ae) m.next) m.ae m.prefix_, 0, ()), ()) := fun b k hk hb hne e3 => by
    have hl := hopT_len m.next
    rw [lhop_is (by omega) (hop hne), Option.bind_some]
    dsimp only
    rw [ltail (okC_setN hk (hop hne)) h hfs (by simp; omega)]
    have : leadC (setN k (famE m.ae) m.next) m = leadC k m := rfl
    rw [this, e3]
  have hl0 : leadC (setId c m.id) m = leadC c m := rfl
  have hidl := idT_len m.id
  by_cases hne : m.next = []
  · rw [if_pos (by simp [hne])]
    by_cases hq : nextC c (famE m.ae) = []
    · rw [if_neg (by simp [hq]), if_neg (show ¬ (m.metric ≠ 65535 ∧ m.next = [] ∧ nextC c (famE m.ae) ≠ []) from fun q => q.2.2 hq)]
      have e2 : m.next = nextC c (famE m.ae) := by rw [hne, hq]
      by_cases hi : m.id = c.id
      · rw [if_neg (by simp [hi]), if_neg (by simp [e2]), if_pos hi, if_pos e2, setId_same hi]
        exact nohop [] c hc (by simp) rfl e2 rfl
      · rw [if_pos (by simp [hi]), if_neg hi, if_pos e2, lid_is (by simp) hil, Option.bind_some]
        dsimp only
        rw [if_neg (by simp [e2])]
        exact nohop (idT m.id) (setId c m.id) (okC_setId hc hn.2.1) (by omega) rfl e2 hl0
    · rw [if_pos (by simp [hq]), if_pos ⟨hm, hne, hq⟩]
  · rw [if_neg (by simpa using hne), if_neg (show ¬ (m.metric ≠ 65535 ∧ m.next = [] ∧ nextC c (famE m.ae) ≠ []) from fun q => hne q.2.1)]
    by_cases hi : m.id = c.id
    · rw [if_neg (by simp [hi]), if_pos hi, setId_same hi]
      by_cases e2 : m.next = nextC c (famE m.ae)
      · rw [if_neg (by simp [e2]), if_pos e2]
        exact nohop [] c hc (by simp) rfl e2 rfl
      · rw [if_pos (by simpa using e2), if_neg e2]
        exact wihop [] c hc (by simp) hne rfl
    · rw [if_pos (by simp [hi]), if_neg hi, lid_is (by simp) hil, Option.bind_some]
      dsimp only
      by_cases e2 : m.next = nextC c (famE m.ae)
      · rw [if_neg (by simp [e2]), if_pos e2]
        exact nohop (idT m.id) (setId c m.id) (okC_setId hc hn.2.1) (by omega) rfl e2 hl0
      · rw [if_pos (by simpa using e2), if_neg e2]
        exact wihop (idT m.id) (setId c m.id) (okC_setId hc hn.2.1) (by omega) hne hl0
end Go.VP
set_option linter.unusedVariables false
set_option linter.unusedSimpArgs false
set_option maxRecDepth 100000
namespace Go.VP
open Go Go.VI
def Tg' (t : Tlv) : Prop := ((0 ≤ t.type_ ∧ t.type_ ≤ 255) ∧ t.data.length ≤ 255) ∧ t.type_ ≠ 0 ∧ t.type_ ≠ 1
def Says (c : Ctx) (s : Bs) (M : List Msg) (d : Ctx) : Prop := ∀ p, ∃ l, spl p s = .ok l ∧ (∀ t ∈ l, Tg' t) ∧ ∀ acc, foldR c l acc = (acc ++ M, d, 0, 0)
theorem says_nil (c : Ctx) : Says c [] [] c := fun p => ⟨[], spl_nil p, (fun t ht => by cases ht), fun acc => by rw [foldR, List.append_nil]⟩
theorem says_app {c d e : Ctx} {s t : Bs} {M N : List Msg} (h : Says c s M d) (h2 : Says d t N e) : Says c (s ++ t) (M ++ N) e := fun p => by
  obtain ⟨l, l1, l2, l3⟩ := h p
  obtain ⟨k, k1, k2, k3⟩ := h2 (p + s.length)
  refine ⟨l ++ k, by rw [spl_append s p l l1, k1]; rfl, fun x hx => ?_, fun acc => ?_⟩
  · rcases List.mem_append.1 hx with hx | hx
    · exact l2 x hx
    · exact k2 x hx
  · rw [foldR_app l k c acc (by rw [l3]), l3, k3, List.append_assoc]
theorem says_one {c d : Ctx} {t : Int} {b : Bs} {M : List Msg} (ht : 2 ≤ t ∧ t ≤ 255) (hb : b.length ≤ 255) (h : oneR c t b = (d, M, 0)) : Says c (tput t b).1 M d := fun p => by
  have e : (tput t b).1 = u8of t :: u8of b.length :: b := by unfold tput; rw [if_pos ⟨by omega, ht.2, hb⟩]
  refine ⟨[⟨t, p, b⟩], by rw [e]; exact spl_tput ⟨by omega, ht.2⟩ hb, fun x hx => ?_, fun acc => ?_⟩
  · rw [List.mem_singleton] at hx; subst hx
    exact ⟨⟨⟨by show 0 ≤ t; omega, ht.2⟩, hb⟩, by show t ≠ 0; omega, by show t ≠ 1; omega⟩
  · rw [foldR]
    dsimp only
    rw [h, if_neg (by simp), foldR]
theorem resF_yes {c : Ctx} {m : Msg} : resF c (m, true, 0) = (c, [m], 0) := by unfold resF; rw [if_neg (by simp), if_pos rfl]
theorem says_field {c : Ctx} {m : Msg} (h : FieldR m) : Says c (fieldPut m).1 [m] c := by
  obtain ⟨h1, h2, h3⟩ := fieldPut_ok h
  have e : (fieldPut m).1 = (tput (m.kind - 5) (fieldsF m ++ encS m.subs)).1 := by unfold fieldPut; rw [if_pos (fieldR_iff.2 h)]
  rw [e]
  refine says_one (by omega) h2 ?_
  unfold oneR
  rw [if_neg (by omega), if_neg (by omega), if_pos (by omega), fieldG_back h, resF_yes]
theorem says_route {c : Ctx} {m : Msg} (h : RouteR m) : Says c (routePut m).1 [m] c := by
  obtain ⟨h1, h2⟩ := routePut_ok h
  have e : (routePut m).1 = (tput (if m.kind = 13 then 10 else 9) (headF m ++ encS m.subs)).1 := by unfold routePut; rw [if_pos (routeR_iff.2 h)]
  have ht : (if m.kind = 13 then (10 : Int) else 9) = 9 ∨ (if m.kind = 13 then (10 : Int) else 9) = 10 := by split <;> omega
  have hb := routeG_back h
  rw [e]
  generalize (if m.kind = 13 then (10 : Int) else 9) = t at *
  refine says_one (by omega) h2 ?_
  unfold oneR
  rw [if_neg (by omega), if_neg (by omega), if_neg (by omega), if_pos (by omega), hb, resF_yes]
theorem OpqR.eq {m : Msg} (h : OpqR m) : opaqueM m.type_ m.data = m := by
  have hx : bareOf m = some ⟨m.kind, 0, 0, [], 0, 0, [], 0, 0, [], 0, [], 0, 0, 0, 0, 0, 0, 0, [], [], [], m.type_, m.data, []⟩ := by
    have hk := h.kind
    unfold bareOf; rw [if_neg (by omega), if_neg (by omega), if_neg (by omega), if_neg (by omega), if_neg (by omega), if_neg (by omega), if_neg (by omega), if_neg (by omega), if_neg (by omega), if_neg (by omega), if_neg (by omega), if_neg (by omega), if_neg (by omega), if_pos hk]
  have hb := h.bare
  rw [bareB, hx] at hb
  have := eqB_true.1 hb
  rw [h.kind] at this
  exact this
theorem says_opq {c : Ctx} {m : Msg} (h : OpqR m) : Says c (tput m.type_ m.data).1 [m] c := by
  refine says_one (by have := h.ty; omega) (by have := h.len; omega) ?_
  have := h.ty
  unfold oneR
  rw [if_neg (by omega), if_neg (by omega), if_neg (by omega), if_neg (by omega), h.eq]
theorem says_other {c : Ctx} {m : Msg} (h : LeanR m) (hk : m.kind ≠ 11) : Says c (otherF m) [m] c := by
  unfold otherF
  cases h with
  | field h =>
    have := fieldB_kind (fieldR_iff.2 h)
    rw [if_neg (by omega), if_neg (by omega)]; exact says_field h
  | route h =>
    have := routeB_kind (routeR_iff.2 h)
    rw [if_pos this]; exact says_route h
  | upd h => exact absurd h.kind hk
  | opq h =>
    have := h.kind
    rw [if_neg (by omega), if_pos this]; exact says_opq h
theorem says_id {c : Ctx} {s : Bs} (h : s.length = 8) : Says c (idT s) [] (setId c s) := by
  refine says_one (by omega) (by unfold idD; simp; omega) ?_
  unfold oneR
  rw [if_neg (by omega), if_pos (by omega)]
  unfold stepC
  rw [if_pos rfl, idF_back h]
theorem hopD_len {a : Bs} (h : a.length ≤ 16) : (hopD a).length ≤ 255 := by
  unfold hopD; split
  · simp; omega
  split <;> simp <;> omega
theorem says_hop {c : Ctx} {a : Bs} {f : Int} (h : (f = 0 ∧ a.length = 4) ∨ (f = 1 ∧ a.length = 16)) : Says c (hopT a) [] (setN c f a) := by
  refine says_one (by omega) (hopD_len (by omega)) ?_
  unfold oneR
  rw [if_neg (by omega), if_pos (by omega)]
  unfold stepC
  rw [if_neg (by omega), if_pos rfl, hopF_back h]
theorem says_upd {c : Ctx} {m : Msg} {n : Nat} (hc : okC c) (h : UpdR m) (hn : n ≤ (bytesP m).length)
    (hk : n ≠ 0 → preC c m.ae ≠ [] ∧ ((preC c m.ae).drop (baseA m.ae).toNat).take n = (bytesP m).take n)
    (hf : m.metric ≠ 65535 → c.id = m.id ∧ nextC c (famE m.ae) = m.next) : Says c (updT m n) [m] (setP c m.ae m.prefix_) := by
  have hl := updD_len h n
  have hs := encS_small h.subs
  obtain ⟨_, _, _, h16, _, _⟩ := h.pre
  refine says_one (by omega) (by omega) ?_
  unfold oneR
  rw [if_neg (by omega), if_pos (by omega)]
  unfold stepC
  rw [if_neg (by omega), if_neg (by omega), if_pos rfl, updF_upd hc h hn hk hf]
theorem leadC_ok (c : Ctx) (m : Msg) : leadC c m ≠ 0 → preC c m.ae ≠ [] ∧ ((preC c m.ae).drop (baseA m.ae).toNat).take (leadC c m) = (bytesP m).take (leadC c m) := by
  intro h
  by_cases hq : preC c m.ae = []
  · unfold leadC at h; rw [if_pos hq] at h; exact absurd rfl h
  · refine ⟨hq, ?_⟩
    unfold leadC; rw [if_neg hq]; exact leadN_take _ _
theorem nextC_setN {c : Ctx} {f : Int} {a : Bs} (hf : f = 0 ∨ f = 1) : nextC (setN c f a) f = a := by rcases hf with rfl | rfl <;> rfl
theorem LeanR.upd_of {m : Msg} (h : LeanR m) (hk : m.kind = 11) : UpdR m := by
  cases h with
  | field h => have := fieldB_kind (fieldR_iff.2 h); omega
  | route h => have := routeB_kind (routeR_iff.2 h); omega
  | upd h => exact h
  | opq h => have := h.kind; omega
theorem says_update {c : Ctx} {m : Msg} {n : Nat} {i h : Bs} (hc : okC c) (hu : UpdR m) (hm : m.metric ≠ 65535) (hn : n ≤ (bytesP m).length)
    (hk : n ≠ 0 → preC c m.ae ≠ [] ∧ ((preC c m.ae).drop (baseA m.ae).toNat).take n = (bytesP m).take n)
    (hi : i = idT m.id ∨ (i = [] ∧ m.id = c.id)) (hh : (h = hopT m.next ∧ m.next ≠ []) ∨ (h = [] ∧ m.next = nextC c (famE m.ae))) :
    Says c ((i ++ h) ++ updT m n) [m] (setP (setN (setId c m.id) (famE m.ae) m.next) m.ae m.prefix_) := by
  obtain ⟨hf, hop⟩ := hu.fam hm
  have hid := (hu.near hm).2.1
  have hc1 := okC_setId hc hid
  have s1 : Says c i [] (setId c m.id) := by
    rcases hi with rfl | ⟨rfl, e⟩
    · exact says_id hid
    · rw [setId_same e]; exact says_nil c
  have hc2 : okC (setN (setId c m.id) (famE m.ae) m.next) ∧ Says (setId c m.id) h [] (setN (setId c m.id) (famE m.ae) m.next) := by
    rcases hh with ⟨rfl, e⟩ | ⟨rfl, e⟩
    · exact ⟨okC_setN hc1 (hop e), says_hop (hop e)⟩
    · have e' : m.next = nextC (setId c m.id) (famE m.ae) := e
      rw [setN_same hf e']; exact ⟨hc1, says_nil _⟩
  have s3 : Says (setN (setId c m.id) (famE m.ae) m.next) (updT m n) [m] _ := says_upd hc2.1 hu hn hk (fun _ => ⟨rfl, nextC_setN hf⟩)
  have := says_app (says_app s1 hc2.2) s3
  exact this
theorem putL_back {c : Ctx} {m : Msg} (hc : okC c) (h : LeanR m) (he : (putL c m).2.2 = 0) : Says c (putL c m).1 [m] (putL c m).2.1 := by
  unfold putL at he ⊢
  rw [leanR_iff.2 h] at he ⊢
  rw [if_neg (show ¬ (true = false) by simp)] at he ⊢
  by_cases hk : m.kind ≠ 11
  · rw [if_pos hk]; exact says_other h hk
  rw [if_neg hk] at he ⊢
  have hu := h.upd_of (by simpa using hk)
  by_cases hx : m.metric ≠ 65535 ∧ m.next = [] ∧ nextC c (famE m.ae) ≠ []
  · rw [if_pos hx] at he; exact absurd he (show ¬ ((9 : Int) = 0) by decide)
  rw [if_neg hx]
  have hle := leadC_le c m
  have hok := leadC_ok c m
  unfold headL knownL
  by_cases hm : m.metric = 65535
  · rw [if_pos hm, if_pos hm, List.nil_append]
    exact says_upd hc hu hle hok (fun q => absurd hm q)
  · rw [if_neg hm, if_neg hm]
    refine says_update hc hu hm hle hok ?_ ?_
    · by_cases hi : m.id = c.id
      · rw [if_pos hi]; exact .inr ⟨rfl, hi⟩
      · rw [if_neg hi]; exact .inl rfl
    · by_cases hnx : m.next = nextC c (famE m.ae)
      · rw [if_pos hnx]; exact .inr ⟨rfl, hnx⟩
      · rw [if_neg hnx]
        refine .inl ⟨rfl, fun e => ?_⟩
        exact hx ⟨hm, e, fun q => hnx (by rw [e, q])⟩
theorem putL_ok {c : Ctx} {m : Msg} (hc : okC c) (h : LeanR m) : okC (putL c m).2.1 := by
  unfold putL
  split
  · exact hc
  split
  · exact hc
  split
  · exact hc
  rename_i hk hx
  have hu := h.upd_of (by simpa using hk)
  have hk2 : okC (knownL c m) := by
    unfold knownL
    split
    · exact hc
    · rename_i hm
      obtain ⟨hf, hop⟩ := hu.fam hm
      have hc1 := okC_setId (i := m.id) hc (hu.near hm).2.1
      by_cases hne : m.next = []
      · have e : m.next = nextC (setId c m.id) (famE m.ae) := by
          rw [hne]
          show [] = nextC c (famE m.ae)
          cases hq : nextC c (famE m.ae) with
          | nil => rfl
          | cons a b => exact absurd ⟨hm, hne, by rw [hq]; simp⟩ hx
        rw [setN_same hf e]; exact hc1
      · exact okC_setN hc1 (hop hne)
  obtain ⟨a, b, c', d, e⟩ := inB_iff.1 hu.inn
  obtain ⟨h0, h1, h2, h3, h4, h5, h6⟩ := hk2
  show okC (setP (knownL c m) m.ae m.prefix_)
  unfold setP
  split
  · exact ⟨h0, h1, h2, h3, h4, h5, h6⟩
  · refine ⟨h0, ?_, ?_, ?_, h4, h5, h6⟩
    · dsimp only
      split
      · rename_i q; rw [q] at b; right; have : szA 1 = 4 := rfl; omega
      · exact h1
    · dsimp only
      split
      · rename_i q; rw [q] at b; right; have : szA 2 = 16 := rfl; omega
      · exact h2
    · dsimp only
      split
      · rename_i q; exact .inr (e q)
      · exact h3
theorem tput_mono {t : Int} {a b : Bs} (h : a.length ≤ b.length) (hb : 1 ≤ t ∧ t ≤ 255 ∧ b.length ≤ 255) : (tput t a).1.length ≤ (tput t b).1.length := by
  unfold tput
  rw [if_pos ⟨hb.1, hb.2.1, by omega⟩, if_pos hb]; simp; omega
theorem putL_short {c : Ctx} {m : Msg} (h : LeanR m) (he : (putL c m).2.2 = 0) : (putL c m).1.length ≤ (plainL m).1.length := by
  unfold putL at he ⊢
  unfold plainL
  rw [leanR_iff.2 h] at he ⊢
  rw [if_neg (show ¬ (true = false) by simp)] at he ⊢
  rw [if_neg (show ¬ (true = false) by simp)]
  by_cases hk : m.kind ≠ 11
  · rw [if_pos hk, if_pos hk]; exact Nat.le_refl _
  rw [if_neg hk] at he ⊢
  rw [if_neg hk]
  have hu := h.upd_of (by simpa using hk)
  by_cases hx : m.metric ≠ 65535 ∧ m.next = [] ∧ nextC c (famE m.ae) ≠ []
  · rw [if_pos hx] at he; exact absurd he (show ¬ ((9 : Int) = 0) by decide)
  rw [if_neg hx]
  have l1 := updD_len hu (leadC c m)
  have l2 := updD_len hu 0
  have hs := encS_small hu.subs
  obtain ⟨_, _, _, h16, _, _⟩ := hu.pre
  have := tput_mono (t := 8) (a := updD m (leadC c m)) (b := updD m 0) (by omega) ⟨by omega, by omega, by omega⟩
  show ((headL c m ++ updT m (leadC c m)).length ≤ (_ ++ updT m 0).length)
  rw [List.length_append, List.length_append]
  have h2 : (headL c m).length ≤ (if m.metric = 65535 then [] else idT m.id ++ (if m.next = [] then [] else hopT m.next)).length := by
    unfold headL
    by_cases hm : m.metric = 65535
    · rw [if_pos hm, if_pos hm]; exact Nat.le_refl _
    · rw [if_neg hm, if_neg hm, List.length_append, List.length_append]
      have a1 : (if m.id = c.id then [] else idT m.id).length ≤ (idT m.id).length := by split <;> simp
      have a2 : (if m.next = nextC c (famE m.ae) then [] else hopT m.next).length ≤ (if m.next = [] then [] else hopT m.next).length := by
        by_cases hne : m.next = []
        · have e : m.next = nextC c (famE m.ae) := by
            rw [hne]
            cases hq : nextC c (famE m.ae) with
            | nil => rfl
            | cons a b => exact absurd ⟨hm, hne, by rw [hq]; simp⟩ hx
          rw [if_pos e]; simp
        · rw [if_neg hne]; split <;> simp
      omega
  unfold updT
  omega
end Go.VP
set_option linter.unusedVariables false
set_option linter.unusedSimpArgs false
set_option maxRecDepth 100000
namespace Go.VP
open Go Go.VI
noncomputable def outS : Ctx → List Msg → Option (Bs × Ctx)
  | c, [] => some ([], c)
  | c, m :: r => if (putL c m).2.2 ≠ 0 then none else (outS (putL c m).2.1 r).map fun x => ((putL c m).1 ++ x.1, x.2)
noncomputable def goO : Ctx → List Msg → Nat → Bs → Bs × Int × Int
  | _, [], _, b => ((wrapF b).1, 0, 0)
  | c, m :: r, i, b => if (putL c m).2.2 ≠ 0 then ([], i, (putL c m).2.2) else if 65531 < ((b ++ (putL c m).1).length : Int) then ([], i, 10) else goO (putL c m).2.1 r (i + 1) (b ++ (putL c m).1)
noncomputable def badL : List Msg → Nat → Option Nat
  | [], _ => none
  | m :: r, i => if leanB m = false then some i else badL r (i + 1)
noncomputable def encO (l : List Msg) : Bs × Int × Int := match badL l 0 with
  | some i => ([], i, 1)
  | none => goO c0 l 0 []
theorem badL_none : ∀ {l : List Msg} {i : Nat}, badL l i = none ↔ ∀ m ∈ l, leanB m = true
  | [], i => by simp [badL]
  | m :: r, i => by
    rw [badL]
    by_cases h : leanB m = false
    · rw [if_pos h]; simp [h]
    · rw [if_neg h, badL_none (l := r)]
      simp at h; simp [h]
theorem outS_says : ∀ {l : List Msg} {c d : Ctx} {s : Bs}, okC c → (∀ m ∈ l, LeanR m) → outS c l = some (s, d) → Says c s l d ∧ okC d
  | [], c, d, s, hc, hl, h => by rw [outS] at h; cases h; exact ⟨says_nil c, hc⟩
  | m :: r, c, d, s, hc, hl, h => by
    rw [outS] at h
    split at h
    · cases h
    · rename_i he
      have he : (putL c m).2.2 = 0 := by simpa using he
      cases ho : outS (putL c m).2.1 r with
      | none => rw [ho] at h; cases h
      | some x =>
        rw [ho] at h
        cases h
        have hR := hl m (List.mem_cons_self ..)
        obtain ⟨h1, h2⟩ := outS_says (putL_ok hc hR) (fun x hx => hl x (List.mem_cons_of_mem _ hx)) ho
        exact ⟨says_app (putL_back hc hR he) h1, h2⟩
theorem outS_app : ∀ {a b : List Msg} {c d : Ctx} {s : Bs}, outS c (a ++ b) = some (s, d) → ∃ s1 d1 s2, outS c a = some (s1, d1) ∧ outS d1 b = some (s2, d) ∧ s = s1 ++ s2
  | [], b, c, d, s, h => ⟨[], c, s, rfl, h, rfl⟩
  | m :: r, b, c, d, s, h => by
    rw [List.cons_append, outS] at h
    split at h
    · cases h
    · rename_i he
      cases ho : outS (putL c m).2.1 (r ++ b) with
      | none => rw [ho] at h; cases h
      | some x =>
        rw [ho] at h
        cases h
        obtain ⟨s1, d1, s2, h1, h2, h3⟩ := outS_app ho
        exact ⟨(putL c m).1 ++ s1, d1, s2, by rw [outS, if_neg he, h1]; rfl, h2, by rw [h3, List.append_assoc]⟩
theorem goO_of : ∀ {l : List Msg} {c d : Ctx} {s b : Bs} {i : Nat}, outS c l = some (s, d) → ((b ++ s).length : Int) ≤ 65531 → goO c l i b = ((wrapF (b ++ s)).1, 0, 0)
  | [], c, d, s, b, i, h, hl => by rw [outS] at h; cases h; rw [goO, List.append_nil]
  | m :: r, c, d, s, b, i, h, hl => by
    rw [outS] at h
    split at h
    · cases h
    · rename_i he
      cases ho : outS (putL c m).2.1 r with
      | none => rw [ho] at h; cases h
      | some x =>
        rw [ho] at h
        cases h
        rw [← List.append_assoc] at hl ⊢
        have hl2 : (((b ++ (putL c m).1) ++ x.1).length : Int) ≤ 65531 := hl
        rw [goO, if_neg he, if_neg (by simp only [List.length_append] at hl2 ⊢; omega)]
        exact goO_of ho hl2
theorem goO_inv : ∀ {l : List Msg} {c : Ctx} {b : Bs} {i : Nat}, (goO c l i b).2.2 = 0 → (b.length : Int) ≤ 65531 → ∃ s d, outS c l = some (s, d) ∧ ((b ++ s).length : Int) ≤ 65531
  | [], c, b, i, h, hb => ⟨[], c, rfl, by simpa using hb⟩
  | m :: r, c, b, i, h, hb => by
    rw [goO] at h
    split at h
    · rename_i he; exact absurd h he
    rename_i he
    split at h
    · exact absurd h (show ¬ ((10 : Int) = 0) by decide)
    rename_i hl
    obtain ⟨s, d, h1, h2⟩ := goO_inv h (by omega)
    exact ⟨(putL c m).1 ++ s, d, by rw [outS, if_neg he, h1]; rfl, by rw [← List.append_assoc]; exact h2⟩
theorem parse_out {l : List Msg} {s : Bs} {d : Ctx} (h : Says c0 s l d) (hs : (s.length : Int) ≤ 65531) : parseI (wrapF s).1 = (l, 0, 0) := by
  obtain ⟨w1, w2, w3, w4⟩ := body_wrap (s := s) (t := []) (by omega) (by simp; omega)
  rw [List.append_nil] at w1 w2
  obtain ⟨tl, h1, h2, h3⟩ := h 4
  have hf := h3 []
  unfold parseI
  rw [w1, w2, if_neg (by simp)]
  dsimp only
  rw [h1, spl_nil]
  dsimp only
  rw [hf]; rfl
theorem encO_ok {l : List Msg} (h : (encO l).2.2 = 0) : (∀ m ∈ l, leanB m = true) ∧ ∃ s d, outS c0 l = some (s, d) ∧ (s.length : Int) ≤ 65531 ∧ encO l = ((wrapF s).1, 0, 0) ∧ Says c0 s l d ∧ (encO l).1.length = 4 + s.length := by
  unfold encO at h ⊢
  cases hb : badL l 0 with
  | some i => rw [hb] at h; exact absurd h (show ¬ ((1 : Int) = 0) by decide)
  | none =>
    rw [hb] at h
    dsimp only at h ⊢
    have hl := badL_none.1 hb
    obtain ⟨s, d, h1, h2⟩ := goO_inv h (by simp)
    have h2' : (s.length : Int) ≤ 65531 := by simpa using h2
    have h3 := goO_of (i := 0) (b := []) h1 (by simpa using h2')
    rw [List.nil_append] at h3
    refine ⟨hl, s, d, h1, h2', h3, (outS_says okC_c0 (fun m hm => leanR_iff.1 (hl m hm)) h1).1, ?_⟩
    rw [h3]
    exact (body_wrap (s := s) (t := []) (by omega) (by simp; omega)).2.2.1
theorem encO_of {l : List Msg} {s : Bs} {d : Ctx} (hl : ∀ m ∈ l, leanB m = true) (h1 : outS c0 l = some (s, d)) (h2 : (s.length : Int) ≤ 65531) : encO l = ((wrapF s).1, 0, 0) := by
  have h3 := goO_of (i := 0) (b := []) h1 (by simpa using h2)
  rw [List.nil_append] at h3
  unfold encO
  rw [badL_none.2 hl]; exact h3
end Go.VP
set_option linter.unusedVariables false
set_option linter.unusedSimpArgs false
set_option maxRecDepth 100000
namespace Go.VP
open Go Go.VI
theorem putL_small (c : Ctx) (m : Msg) : (putL c m).1.length ≤ 800 := by
  have h1 := idT_len m.id; have h2 := hopT_len m.next; have h3 : (updT m (leadC c m)).length ≤ 257 := tput_len _ _
  have h4 : (otherF m).length ≤ 257 := by
    unfold otherF routePut fieldPut
    split
    · split
      · exact tput_len _ _
      · simp
    split
    · exact tput_len _ _
    split
    · exact tput_len _ _
    · simp
  have h5 : (headL c m).length ≤ 514 := by
    unfold headL
    split
    · simp
    · have a1 : (if m.id = c.id then [] else idT m.id).length ≤ 257 := by
        split
        · simp
        · exact h1
      have a2 : (if m.next = nextC c (famE m.ae) then [] else hopT m.next).length ≤ 257 := by
        split
        · simp
        · exact h2
      rw [List.length_append]; omega
  unfold putL
  split
  · simp
  split
  · dsimp only; omega
  split
  · simp
  · dsimp only; rw [List.length_append]; omega
theorem plainL_small (m : Msg) : (plainL m).1.length ≤ 800 := by
  have h1 := idT_len m.id; have h2 := hopT_len m.next; have h3 : (updT m 0).length ≤ 257 := tput_len _ _
  have h4 : (otherF m).length ≤ 257 := by
    unfold otherF routePut fieldPut
    split
    · split
      · exact tput_len _ _
      · simp
    split
    · exact tput_len _ _
    split
    · exact tput_len _ _
    · simp
  unfold plainL
  split
  · simp
  split
  · dsimp only; omega
  · dsimp only; rw [List.length_append]; split
    · simp; omega
    · have h6 : (if m.next = [] then [] else hopT m.next).length ≤ 257 := by
        split
        · simp
        · exact h2
      rw [List.length_append]; omega
theorem oenc1_loop {l : List Msg} {n : Nat} (hl : l.length ≤ 100000) (hg : ∀ m ∈ l, GoodL m) (hb : ∀ m ∈ l, leanB m = true) : ∀ (d k i : Nat) (c : Ctx) (b : Bs), i + d = l.length → d < k → okC c → b.length ≤ 65531 →
    L_outlet_Encode_1 n k l b c.prefix_c0 c.prefix_c1 c.prefix_c2 c.prefix_c3 c.next_c0 c.next_c1 c.id i = some (trip (goO c (l.drop i) i b), ()) := by
  intro d
  induction d with
  | zero =>
    intro k i c b hd hk hc hbl
    obtain ⟨k, rfl⟩ : ∃ q, k = q + 1 := ⟨k - 1, by omega⟩
    rw [L_outlet_Encode_1_eq, ifn (by omega), wrap_is (by omega), List.drop_eq_nil_of_le (by omega)]; rfl
  | succ d ih =>
    intro k i c b hd hk hc hbl
    obtain ⟨k, rfl⟩ : ∃ q, k = q + 1 := ⟨k - 1, by omega⟩
    have hi : i < l.length := by omega
    have hp : 0 ≤ (i : Int) := by omega
    have hm := hb _ (List.getElem_mem hi)
    have hgm := hg _ (List.getElem_mem hi)
    have ih' := fun c b => ih k (i + 1) c b (by omega) (by omega)
    rw [show ((i + 1 : Nat) : Int) = (i : Int) + 1 by omega] at ih'
    rw [L_outlet_Encode_1_eq, ifd (by omega), if_pos hp, Int.toNat_natCast, bind_at hi, List.drop_eq_getElem_cons hi, goO]
    generalize l[i] = m at *
    have hlen := putL_small c m
    rw [show (S_api_Ctx.mk c.prefix_c0 c.prefix_c1 c.prefix_c2 c.prefix_c3 c.next_c0 c.next_c1 c.id) = c from rfl, lput_main hc hgm, Option.bind_some]
    dsimp only
    refine ne_step (fun he => by rw [if_pos he]) (fun he => ?_)
    rw [if_neg (show ¬ (putL c m).2.2 ≠ 0 from fun q => q he), if_pos (roomB_of (by omega))]
    refine dq_step' (fun q => by rw [if_pos q]) (fun q => ?_)
    rw [if_neg q, w64 (by omega) (by omega)]
    exact ih' _ _ (putL_ok hc (leanR_iff.1 hm)) (by omega)
theorem oenc0_loop {l : List Msg} {n : Nat} (hn : 1000000 ≤ n) (hl : l.length ≤ 100000) (hg : ∀ m ∈ l, GoodL m) : ∀ (d k i : Nat), i + d = l.length → d < k → (∀ m ∈ l.take i, leanB m = true) →
    L_outlet_Encode_0 n k l i = some (trip (match badL (l.drop i) i with | some j => ([], (j : Int), 1) | none => goO c0 l 0 []), ()) := by
  intro d
  induction d with
  | zero =>
    intro k i hd hk hq
    obtain ⟨k, rfl⟩ : ∃ q, k = q + 1 := ⟨k - 1, by omega⟩
    rw [List.take_of_length_le (by omega)] at hq
    have := oenc1_loop (n := n) hl hg hq l.length n 0 c0 [] (by omega) (by omega) okC_c0 (by simp)
    rw [L_outlet_Encode_0_eq, ifn (by omega), List.drop_eq_nil_of_le (by omega)]
    exact this
  | succ d ih =>
    intro k i hd hk hq
    obtain ⟨k, rfl⟩ : ∃ q, k = q + 1 := ⟨k - 1, by omega⟩
    have hi : i < l.length := by omega
    have hp : 0 ≤ (i : Int) := by omega
    have ih' := ih k (i + 1) (by omega) (by omega)
    rw [show ((i + 1 : Nat) : Int) = (i : Int) + 1 by omega] at ih'
    have hgm := hg _ (List.getElem_mem hi)
    rw [L_outlet_Encode_0_eq, ifd (by omega), if_pos hp, Int.toNat_natCast, bind_at hi, lright_is hgm, Option.bind_some, List.drop_eq_getElem_cons hi, badL]
    dsimp only
    cases hm : leanB l[i] with
    | false => rw [ifnf, if_pos rfl]
    | true =>
      rw [ifnt, if_neg (show ¬ (true = false) by simp), w64 (by omega) (by omega)]
      refine ih' (fun x hx => ?_)
      rw [List.take_succ_eq_append_getElem hi, List.mem_append, List.mem_singleton] at hx
      rcases hx with hx | rfl
      · exact hq x hx
      · exact hm
theorem oenc_is {l : List Msg} (hl : l.length ≤ 100000) (hg : ∀ m ∈ l, GoodL m) : g_outlet_Encode (l, ()) = some (trip (encO l), ()) := by
  show h_outlet_Encode fuel (l, ()) = _
  rw [h_outlet_Encode_eq]
  exact oenc0_loop (n := fuel) (Nat.le_of_lt (fuel_ge (by omega))) hl hg l.length fuel 0 (by omega) (fuel_ge (by omega)) (fun m hm => by simp at hm)
end Go.VP
set_option linter.unusedVariables false
set_option linter.unusedSimpArgs false
set_option maxRecDepth 100000
namespace Go.VP
open Go Go.VI
def zeroB (s : Bs) : Bool := s.all (· == 0)
theorem zero_loop {n : Nat} {s : Bs} (hs : s.length ≤ 1000000000) : ∀ (d m i : Nat), i + d = s.length → d < m → L_octet_Zero_0 n m s i = some (((s.drop i).all (· == 0), ()), ()) := by
  intro d
  induction d with
  | zero =>
    intro m i hd hm
    obtain ⟨m, rfl⟩ : ∃ k, m = k + 1 := ⟨m - 1, by omega⟩
    rw [L_octet_Zero_0_eq, ifn (by omega), List.drop_eq_nil_of_le (by omega)]; rfl
  | succ d ih =>
    intro m i hd hm
    obtain ⟨m, rfl⟩ : ∃ k, m = k + 1 := ⟨m - 1, by omega⟩
    have ha : i < s.length := by omega
    have := ih m (i + 1) (by omega) (by omega)
    rw [show ((i + 1 : Nat) : Int) = (i : Int) + 1 by omega] at this
    rw [L_octet_Zero_0_eq, ifd (by omega), if_pos (by omega), Int.toNat_natCast, bind_at ha, w64 (by omega) (by omega), this, List.drop_eq_getElem_cons ha, List.all_cons]
    refine ne_step (fun h => ?_) (fun h => ?_)
    · have : (s[i] == 0) = false := by
        rw [beq_eq_false_iff_ne]; intro e; rw [e] at h; exact h rfl
      rw [this]; rfl
    · have : s[i] = 0 := u8_eq h
      rw [this]; simp
theorem zero_is {s : Bs} (hs : s.length ≤ 1000000000) : g_octet_Zero (s, ()) = some ((zeroB s, ()), ()) := by
  show h_octet_Zero fuel (s, ()) = _
  rw [h_octet_Zero_eq]
  exact zero_loop hs s.length fuel 0 (by omega) (fuel_ge (by omega))
abbrev z4 : Bs := [0, 0, 0, 0]
theorem zero4 {s : Bs} (h : s.length = 4) : zeroB s = true ↔ s = z4 := by
  match s, h with
  | [a, b, c, d], _ => simp [zeroB]
theorem zero8 {s t : Bs} (h : s.length = 4) (h' : t.length = 4) : zeroB (s ++ t) = true ↔ s = z4 ∧ t = z4 := by
  rw [← zero4 h, ← zero4 h']; simp [zeroB, List.all_append]
def entF (s : Bs) : S_api_Entry := ⟨num (cut_ s 0 2), num (cut_ s 2 2), cut_ s 4 4, cut_ s 8 4, cut_ s 12 4, num (cut_ s 16 4)⟩
def maskF (n : Int) : Bs := keepF [255, 255, 255, 255] n
theorem maskF_key : ∀ k : Fin 33, ([(u8of (IntKind.wrap .u8 (ishr .u32 (ishl .u32 4294967295 (IntKind.wrap .u64 (IntKind.wrap .i64 (32 - (k.val : Int))))) 24))), (u8of (IntKind.wrap .u8 (ishr .u32 (ishl .u32 4294967295 (IntKind.wrap .u64 (IntKind.wrap .i64 (32 - (k.val : Int))))) 16))), (u8of (IntKind.wrap .u8 (ishr .u32 (ishl .u32 4294967295 (IntKind.wrap .u64 (IntKind.wrap .i64 (32 - (k.val : Int))))) 8))), (u8of (IntKind.wrap .u8 (ishl .u32 4294967295 (IntKind.wrap .u64 (IntKind.wrap .i64 (32 - (k.val : Int)))))))] : Bs) = maskF k.val := by decide +kernel
theorem maskF_length (n : Int) : (maskF n).length = 4 := by unfold maskF; rw [keepF_length]; rfl
theorem fin33 {n : Int} (h : 0 ≤ n) (h' : n ≤ 32) : ∃ k : Fin 33, n = (k.val : Int) := ⟨⟨n.toNat, by omega⟩, by simp; omega⟩
theorem maskOf_is {n : Int} (h : 0 ≤ n) (h' : n ≤ 32) : g_mask_Of (n, ()) = some ((maskF n, true, ()), ()) := by
  obtain ⟨k, rfl⟩ := fin33 h h'
  rw [g_mask_Of_eq, ifn (by omega), ifn (by omega), if_pos (by rw [w64 (by omega) (by omega), wu64 (by omega) (by omega)]; omega), maskF_key k]
def plenGo (s : Bs) : Nat → Nat → Int × Bool
  | 0, _ => (0, false)
  | d + 1, k => if maskF k = s then ((k : Int), true) else plenGo s d (k + 1)
def plenF (s : Bs) : Int × Bool := plenGo s 33 0
theorem plenGo_cases (s : Bs) : ∀ (d k : Nat), (∃ j : Nat, k ≤ j ∧ j < k + d ∧ plenGo s d k = ((j : Int), true) ∧ maskF j = s) ∨ (plenGo s d k = (0, false) ∧ ∀ j : Nat, k ≤ j → j < k + d → maskF j ≠ s)
  | 0, k => .inr ⟨rfl, fun j h1 h2 => by omega⟩
  | d + 1, k => by
    by_cases h : maskF k = s
    · exact .inl ⟨k, by omega, by omega, by rw [plenGo, if_pos h], h⟩
    · rcases plenGo_cases s d (k + 1) with ⟨j, h1, h2, h3, h4⟩ | ⟨h3, h4⟩
      · exact .inl ⟨j, by omega, by omega, by rw [plenGo, if_neg h, h3], h4⟩
      · refine .inr ⟨by rw [plenGo, if_neg h, h3], fun j h1 h2 => ?_⟩
        by_cases e : j = k
        · rw [e]; exact h
        · exact h4 j (by omega) (by omega)
theorem plenF_cases (s : Bs) : (∃ k : Fin 33, plenF s = ((k.val : Int), true) ∧ maskF k.val = s) ∨ (plenF s = (0, false) ∧ ∀ j : Nat, j < 33 → maskF j ≠ s) := by
  rcases plenGo_cases s 33 0 with ⟨j, _, h2, h3, h4⟩ | ⟨h3, h4⟩
  · exact .inl ⟨⟨j, by omega⟩, h3, h4⟩
  · exact .inr ⟨h3, fun j h => h4 j (by omega) (by omega)⟩
theorem plen_mask : ∀ k : Fin 33, plenF (maskF k.val) = ((k.val : Int), true) := by decide +kernel
theorem plenF_ok {s : Bs} (h : (plenF s).2 = true) : 0 ≤ (plenF s).1 ∧ (plenF s).1 ≤ 32 ∧ maskF (plenF s).1 = s := by
  rcases plenF_cases s with ⟨k, e, hk⟩ | ⟨e, _⟩
  · rw [e]; have := k.isLt; exact ⟨by simp, by simp; omega, hk⟩
  · rw [e] at h; cases h
theorem plenF_maskF {n : Int} (h : 0 ≤ n) (h' : n ≤ 32) : plenF (maskF n) = (n, true) := by
  obtain ⟨k, rfl⟩ := fin33 h h'
  exact plen_mask k
end Go.VP
set_option linter.unusedVariables false
set_option linter.unusedSimpArgs false
set_option maxRecDepth 100000
namespace Go.VP
open Go Go.VI
def okR (m : Msg) : Prop := m.kind = 1 ∧ bareB m = true ∧ (m.cmd = 1 ∨ m.cmd = 2) ∧ (m.ver = 1 ∨ m.ver = 2) ∧ m.prefix_.length = 4 ∧ m.next.length = 4 ∧ (m.auth = [] ∨ (m.ver = 2 ∧ m.auth.length = 18)) ∧
  ((m.family = 0 ∧ m.cmd = 1 ∧ m.tag = 0 ∧ m.plen = 0 ∧ m.prefix_ = z4 ∧ m.next = z4 ∧ m.metric = 16) ∨
   (m.family = 2 ∧ 1 ≤ m.metric ∧ m.metric ≤ 16 ∧
     ((m.ver = 1 ∧ m.tag = 0 ∧ m.plen = 32 ∧ m.next = z4) ∨ (m.ver = 2 ∧ 0 ≤ m.tag ∧ m.tag ≤ 65535 ∧ 0 ≤ m.plen ∧ m.plen ≤ 32 ∧ cleanB m.prefix_ m.plen = true))))
open Classical in
noncomputable def rightR (m : Msg) : Bool := decide (okR m)
theorem rightR_true {m : Msg} : rightR m = true ↔ okR m := by unfold rightR; simp
structure RM (m : Msg) : Prop where
  tag : IntKind.has .i64 m.tag
  plen : IntKind.has .i64 m.plen
  list : m.list.length ≤ 1000000000
  subs : m.subs.length ≤ 1000000000
theorem dq_step {R : Type} {p : Prop} [Decidable p] {t f r : R} (h : p → t = r) (h' : ¬ p → f = r) : (if decide p = true then t else f) = r := by
  by_cases hp : p
  · rw [ifd hp]; exact h hp
  · rw [ifn hp]; exact h' hp
theorem nb_step {R : Type} {b : Bool} {t f r : R} (h : b = false → t = r) (h' : b = true → f = r) : (if (!b) = true then t else f) = r := by
  cases b
  · exact h rfl
  · exact h' rfl
theorem two_step {R : Type} {x a b : Int} {F V r : R} (h1 : ¬ (x = a ∨ x = b) → F = r) (h2 : (x = a ∨ x = b) → V = r) : (if (x != a) = true then (if (x != b) = true then F else V) else V) = r :=
  ne_step (fun ha => ne_step (fun hb => h1 (by omega)) (fun hb => h2 (.inr hb))) (fun ha => h2 (.inl ha))
theorem au_step {R : Type} {s : Bs} {v : Int} {F T r : R} (h1 : ¬ (s = [] ∨ (v ≠ 1 ∧ s.length = 18)) → F = r) (h2 : (s = [] ∨ (v ≠ 1 ∧ s.length = 18)) → T = r) : (if (!(s == ([] : Bs))) = true then (if (v == 1) = true then F else (if ((s.length : Int) != 18) = true then F else T)) else T) = r :=
  nq_step (fun ha => bq_step (fun hb => h1 (by grind)) (fun hb => ne_step (fun hc => h1 (by grind)) (fun hc => h2 (by grind)))) (fun ha => h2 (.inl ha))
theorem pright4 {a : Bs} {n : Int} (h : a.length = 4) (hn : IntKind.has .i64 n) : g_prefix_Right (a, n, ()) = some ((decide (0 ≤ n ∧ n ≤ 32) && cleanB a n, ()), ()) := by
  rw [g_prefix_Right_eq, if_pos (by simp [h]), clean_is (by omega) hn, Option.bind_some]
  dsimp only
  refine dq_step (fun h0 => ?_) (fun h0 => ?_)
  · rw [w64 (by omega) (by omega)]
    refine dq_step (fun h1 => ?_) (fun h1 => ?_)
    · rw [decide_eq_true (by omega)]; rfl
    · rw [decide_eq_false (by omega)]; rfl
  · rw [decide_eq_false (by omega)]; rfl
theorem ripRight_is {m : Msg} (g : RM m) : g_rip_Right (m, ()) = some ((rightR m, ()), ()) := by
  have no : ¬ okR m → (some ((false, ()), ()) : Option ((Bool × Unit) × Unit)) = some ((rightR m, ()), ()) := fun h => by
    have : rightR m = false := by cases e : rightR m with | false => rfl | true => exact absurd (rightR_true.1 e) h
    rw [this]
  have yes : ∀ {b : Bool}, (b = true ↔ okR m) → (some ((b, ()), ()) : Option ((Bool × Unit) × Unit)) = some ((rightR m, ()), ()) := fun {b} h => by
    have : b = rightR m := by rw [Bool.eq_iff_iff, h, rightR_true]
    rw [this]
  rw [g_rip_Right_eq]
  refine ne_step (fun hk => no fun h => hk h.1) (fun hk => ?_)
  rw [bare_is, Option.bind_some]
  refine nb_step (fun hb => no fun h => by have := h.2.1; dsimp only at hb; rw [hb] at this; cases this) (fun hb => ?_)
  dsimp only at hb
  rw [g_rip_four_eq, Option.bind_some]
  refine nb_step (fun hp => no fun h => by have := h.2.2.2.2.1; dsimp only at hp; simp at hp; omega) (fun hp => ?_)
  have hp4 : m.prefix_.length = 4 := by simp at hp; omega
  rw [g_rip_four_eq, Option.bind_some]
  refine nb_step (fun hp => no fun h => by have := h.2.2.2.2.2.1; dsimp only at hp; simp at hp; omega) (fun hn => ?_)
  have hn4 : m.next.length = 4 := by simp at hn; omega
  refine two_step (fun hc => no fun h => hc h.2.2.1) (fun hc => ?_)
  refine two_step (fun hv => no fun h => hv h.2.2.2.1) (fun hv => ?_)
  refine au_step (fun ha => no fun h => ha (by have := h.2.2.2.2.2.2.1; grind)) (fun ha => ?_)
  have ha' : m.auth = [] ∨ (m.ver = 2 ∧ m.auth.length = 18) := by grind
  have z8 := zero8 hp4 hn4
  have zn := zero4 hn4
  refine bq_step (fun f0 => ?_) (fun f0 => ?_)
  · refine bq_step (fun c1 => ?_) (fun c1 => no (by grind [okR]))
    refine bq_step (fun t0 => ?_) (fun t0 => no (by grind [okR]))
    refine bq_step (fun p0 => ?_) (fun t0 => no (by grind [okR]))
    refine bq_step (fun m0 => ?_) (fun t0 => no (by grind [okR]))
    rw [if_pos (maxB_of (by omega)), zero_is (by simp; omega), Option.bind_some]
    exact yes (by rw [z8]; grind [okR])
  · refine ne_step (fun f2 => no (by grind [okR])) (fun f2 => ?_)
    refine dq_step (fun h1 => no (by grind [okR])) (fun h1 => ?_)
    refine dq_step (fun h2 => no (by grind [okR])) (fun h2 => ?_)
    refine bq_step (fun v1 => ?_) (fun v1 => ?_)
    · refine bq_step (fun t0 => ?_) (fun t0 => no (by grind [okR]))
      refine bq_step (fun p0 => ?_) (fun t0 => no (by grind [okR]))
      rw [zero_is (by omega), Option.bind_some]
      exact yes (by rw [zn]; grind [okR])
    · have ft := fits_is (k := 2) g.tag (by omega) (by omega)
      rw [show ((2 : Nat) : Int) = 2 from rfl] at ft
      rw [ft, Option.bind_some]
      dsimp only
      have hf : fitsB m.tag 2 = true ↔ 0 ≤ m.tag ∧ m.tag ≤ 65535 := by unfold fitsB; rw [decide_eq_true_eq]; omega
      cases hfb : fitsB m.tag 2 with
      | false => rw [iff_]; exact no (fun h => by
        have : ¬ (0 ≤ m.tag ∧ m.tag ≤ 65535) := by rw [← hf, hfb]; simp
        grind [okR])
      | true =>
        have := hf.1 hfb
        rw [ift, pright4 hp4 g.plen, Option.bind_some]
        exact yes (by rw [Bool.and_eq_true, decide_eq_true_eq]; grind [okR])
end Go.VP
set_option linter.unusedVariables false
set_option linter.unusedSimpArgs false
set_option maxRecDepth 100000
namespace Go.VP
open Go Go.VI
abbrev Ent := S_api_Entry
def routeM (cmd ver : Int) (says : Bs) (e : Ent) : Msg := ⟨1, cmd, ver, says, e.family, 0, e.addr, (if e.family = 0 then 0 else if ver = 1 then 32 else (plenF e.mask).1), e.tag, e.next, e.metric, [], 0, 0, 0, 0, 0, 0, 0, [], [], [], 0, [], []⟩
open Classical in
noncomputable def errR (cmd ver : Int) (says : Bs) (alone : Bool) (e : Ent) : Int :=
  if e.family = 0 then (if alone = true ∧ e.mask = z4 ∧ okR (routeM cmd ver says e) then 0 else 7)
  else if e.family ≠ 2 then 4
  else if ver = 1 then (if e.tag ≠ 0 ∨ e.mask ≠ z4 ∨ e.next ≠ z4 then 5 else if e.metric < 1 ∨ 16 < e.metric then 6 else 0)
  else if ¬ ((plenF e.mask).2 = true ∧ cleanB e.addr (plenF e.mask).1 = true) then 7
  else if e.metric < 1 ∨ 16 < e.metric then 6 else 0
structure EntOk (e : Ent) : Prop where
  fam : 0 ≤ e.family ∧ e.family ≤ 65535
  tag : 0 ≤ e.tag ∧ e.tag ≤ 65535
  addr : e.addr.length = 4
  mask : e.mask.length = 4
  next : e.next.length = 4
  metric : 0 ≤ e.metric ∧ e.metric ≤ 4294967295
theorem cut_len {s : Bs} {p n : Nat} (h : p + n ≤ s.length) : (cut_ s p n).length = n := by
  have := cut_length (s := s) (p := p) (n := n) (by omega) (by omega) (by omega)
  omega
theorem entF_ok {s : Bs} (h : s.length = 20) : EntOk (entF s) := by
  have h2 : ∀ p : Nat, p + 2 ≤ 20 → 0 ≤ num (cut_ s p 2) ∧ num (cut_ s p 2) ≤ 65535 := fun p hp => by
    have := num_rng (cut_ s p 2)
    have hl : (cut_ s p 2).length = 2 := cut_len (n := 2) (by omega)
    rw [hl] at this; omega
  have h4 := num_rng (cut_ s 16 4)
  have hl : (cut_ s 16 4).length = 4 := cut_len (p := 16) (n := 4) (by omega)
  rw [hl] at h4
  exact ⟨h2 0 (by omega), h2 2 (by omega), cut_len (p := 4) (n := 4) (by omega), cut_len (p := 8) (n := 4) (by omega), cut_len (p := 12) (n := 4) (by omega), by show 0 ≤ num (cut_ s 16 4) ∧ _; exact ⟨h4.1, by show num (cut_ s 16 4) ≤ _; omega⟩⟩
end Go.VP
set_option linter.unusedVariables false
set_option linter.unusedSimpArgs false
set_option maxRecDepth 100000
namespace Go.VP
open Go Go.VI
def headR (b : Bs) : Int × Int :=
  if b.length < 4 then (b.length, 2) else if ¬ (bt b 0 = 1 ∨ bt b 0 = 2) then (0, 4) else if ¬ (bt b 1 = 1 ∨ bt b 1 = 2) then (1, 4)
  else if ¬ (bt b 2 = 0 ∧ bt b 3 = 0) then (2, 5) else if ((b.length : Int) - 4) % 20 ≠ 0 then (b.length, 2) else if b.length = 4 then (b.length, 8) else if 504 < b.length then (504, 8) else (0, 0)
theorem headR_ok {b : Bs} (h : (headR b).2 = 0) : 24 ≤ b.length ∧ b.length ≤ 504 ∧ (bt b 0 = 1 ∨ bt b 0 = 2) ∧ (bt b 1 = 1 ∨ bt b 1 = 2) ∧ bt b 2 = 0 ∧ bt b 3 = 0 ∧ ((b.length : Int) - 4) % 20 = 0 := by
  unfold headR at h
  split at h
  · simp at h
  split at h
  · simp at h
  split at h
  · simp at h
  split at h
  · simp at h
  split at h
  · simp at h
  split at h
  · simp at h
  split at h
  · simp at h
  · rename_i h1 h2 h3 h4 h5 h6 h7
    exact ⟨by omega, by omega, by omega, by omega, by omega, by omega, by omega⟩
theorem four_of {b : Bs} (h : ¬ b.length < 4) : ∃ w x y z r, b = w :: x :: y :: z :: r := by
  match b, h with
  | w :: x :: y :: z :: r, _ => exact ⟨w, x, y, z, r, rfl⟩
  | [], h => simp at h
  | [_], h => simp at h
  | [_, _], h => simp at h
  | [_, _, _], h => simp at h
def goR (f : Ent → Msg × Int) (b : Bs) : Nat → Nat → List Msg → List Msg × Int × Int
  | 0, _, acc => (acc, 0, 0)
  | k + 1, at_, acc => if (f (entF (cut_ b at_ 20))).2 ≠ 0 then ([], (at_ : Int), (f (entF (cut_ b at_ 20))).2) else goR f b k (at_ + 20) (acc ++ [(f (entF (cut_ b at_ 20))).1])
noncomputable def rt (cmd ver : Int) (says : Bs) (alone : Bool) (e : Ent) : Msg × Int := (routeM cmd ver says e, errR cmd ver says alone e)
def authB (b : Bs) : Bool := b.take 2 == [255, 255]
noncomputable def parseR (b : Bs) : List Msg × Int × Int :=
  if (headR b).2 ≠ 0 then ([], (headR b).1, (headR b).2)
  else if bt b 1 = 2 ∧ authB (cut_ b 4 20) = true then
    (if b.length = 24 then ([], 24, 8) else goR (rt (bt b 0) (bt b 1) ((cut_ b 4 20).drop 2) (decide (b.length = 44))) b ((b.length - 24) / 20) 24 [])
  else goR (rt (bt b 0) (bt b 1) [] (decide (b.length = 24))) b ((b.length - 4) / 20) 4 []
end Go.VP
set_option linter.unusedVariables false
set_option linter.unusedSimpArgs false
set_option maxRecDepth 100000
namespace Go.VP
open Go Go.VI
theorem ishr8R {x : Int} (h : 0 ≤ x) : ishr .i64 x 8 = x / 256 := by
  unfold ishr
  rw [show (2 : Int) ^ (min (8 : Int).toNat IntKind.i64.bits) = 256 by decide]
  exact Int.fdiv_eq_ediv_of_nonneg _ (by decide)
theorem pput_loop {c : Nat} : ∀ (i m : Nat) (x : Int) (acc : Bs), i ≤ acc.length → acc.length ≤ 100 → i < m → 0 ≤ x → L_octet_Put_0 c m x ((i : Int) - 1) acc = some ((be i x ++ acc.drop i, true, ()), ())
  | 0, m, x, acc, h1, h2, hm, hx => by
    obtain ⟨m, rfl⟩ : ∃ k, m = k + 1 := ⟨m - 1, by omega⟩
    rw [L_octet_Put_0_eq, ifn (by omega)]; simp [be]
  | i + 1, m, x, acc, h1, h2, hm, hx => by
    obtain ⟨m, rfl⟩ : ∃ k, m = k + 1 := ⟨m - 1, by omega⟩
    have e : (((i + 1 : Nat) : Int) - 1) = (i : Int) := by omega
    rw [L_octet_Put_0_eq, e, ifd (by omega), if_pos (by omega), Int.toNat_natCast, if_pos (by omega), w64 (by omega) (by omega), ishr8R hx, pput_loop i m (x / 256) _ (by simp; omega) (by simp; omega) (by omega) (by omega), wu8, be]
    have : (acc.set i (u8of (x % 256))).drop i = u8of (x % 256) :: acc.drop (i + 1) := by
      rw [List.drop_eq_getElem_cons (by simp; omega), List.getElem_set_self, List.drop_set_of_lt (by omega)]
    rw [this]; simp
theorem oput_is {n : Int} {k : Nat} (hn : IntKind.has .i64 n) (h1 : 1 ≤ k) (h7 : k ≤ 7) (hf : fitsB n k = true) : g_octet_Put (n, (k : Int), ()) = some ((be k n, true, ()), ()) := by
  show h_octet_Put fuel (n, (k : Int), ()) = _
  have h0 : 0 ≤ n := by unfold fitsB at hf; rw [decide_eq_true_eq] at hf; exact hf.1
  rw [h_octet_Put_eq, fits_is hn h1 h7, Option.bind_some, hf]
  dsimp only
  have hr : (k : Int) ≤ roomI := by unfold roomI; omega
  rw [ifnt, if_pos ⟨by omega, hr⟩, w64 (by omega) (by omega), Int.toNat_natCast, pput_loop k fuel n _ (by simp) (by simp; omega) (fuel_ge (by omega)) h0]
  simp
def entB (e : Ent) : Bs := be 2 e.family ++ be 2 e.tag ++ e.addr ++ e.mask ++ e.next ++ be 4 e.metric
theorem fit2 {n : Int} (h : 0 ≤ n ∧ n ≤ 65535) : fitsB n 2 = true := by unfold fitsB; rw [decide_eq_true_eq]; omega
theorem fit4 {n : Int} (h : 0 ≤ n ∧ n ≤ 4294967295) : fitsB n 4 = true := by unfold fitsB; rw [decide_eq_true_eq]; omega
theorem entPut_is {e : Ent} (h : EntOk e) : g_entry_Put (e, ()) = some ((entB e, true, ()), ()) := by
  have h1 := h.addr; have h2 := h.mask; have h3 := h.next; have h4 := h.fam; have h5 := h.tag; have h6 := h.metric
  have hf : IntKind.has .i64 e.family := has64.2 (by omega)
  have ht : IntKind.has .i64 e.tag := has64.2 (by omega)
  have hm : IntKind.has .i64 e.metric := has64.2 (by omega)
  have a1 := fits_is (k := 4) hm (by omega) (by omega)
  have a2 := fits_is (k := 2) hf (by omega) (by omega)
  have a3 := fits_is (k := 2) ht (by omega) (by omega)
  have b1 := oput_is (k := 2) hf (by omega) (by omega) (fit2 h4)
  have b2 := oput_is (k := 2) ht (by omega) (by omega) (fit2 h5)
  have b3 := oput_is (k := 4) hm (by omega) (by omega) (fit4 h6)
  rw [fit4 h6] at a1; rw [fit2 h4] at a2; rw [fit2 h5] at a3
  rw [show ((2 : Nat) : Int) = 2 from rfl] at *
  rw [show ((4 : Nat) : Int) = 4 from rfl] at *
  rw [g_entry_Put_eq, if_neg (by simp; omega), if_neg (by simp; omega), if_neg (by simp; omega), a1, Option.bind_some]
  dsimp only
  rw [ifnt, a2, Option.bind_some]
  dsimp only
  rw [ifnt, a3, Option.bind_some]
  dsimp only
  rw [ifnt, b1, Option.bind_some, b2, Option.bind_some, b3, Option.bind_some]
  dsimp only
  have l2 := be_length 2
  have l4 := be_length 4
  rw [if_pos (maxB_of (by simp [l2])), if_pos (maxB_of (by simp [l2, h1])), if_pos (maxB_of (by simp [l2, h1, h2])), if_pos (maxB_of (by simp [l2, h1, h2, h3])), if_pos (maxB_of (by simp [l2, l4, h1, h2, h3]))]
  rfl
def entM (m : Msg) : Ent := ⟨m.family, m.tag, m.prefix_, (if m.family = 2 ∧ m.ver = 2 then maskF m.plen else z4), m.next, m.metric⟩
def lineF (m : Msg) : Bs := entB (entM m)
theorem entM_ok {m : Msg} (h : okR m) : EntOk (entM m) := by
  obtain ⟨_, _, _, _, hp, hn, _, h⟩ := h
  refine ⟨?_, ?_, hp, ?_, hn, ?_⟩
  · show 0 ≤ m.family ∧ m.family ≤ 65535; omega
  · show 0 ≤ m.tag ∧ m.tag ≤ 65535; omega
  · unfold entM; dsimp only; split
    · exact maskF_length _
    · rfl
  · show 0 ≤ m.metric ∧ m.metric ≤ 4294967295; omega
theorem lineF_length {m : Msg} (h : okR m) : (lineF m).length = 20 := by
  have g := entM_ok h
  unfold lineF entB
  have h1 := g.addr; have h2 := g.mask; have h3 := g.next
  simp [be_length, h1, h2, h3]
theorem zeros4 : g_octet_Zeros (4, ()) = some ((z4, ()), ()) := by
  rw [g_octet_Zeros_eq, if_pos (by unfold roomI; decide)]; rfl
theorem line_is {m : Msg} (h : okR m) : g_rip_line (m, ()) = some ((lineF m, ()), ()) := by
  have g := entPut_is (entM_ok h)
  rw [g_rip_line_eq, zeros4, Option.bind_some]
  refine bq_step (fun f2 => bq_step (fun v2 => ?_) (fun v2 => ?_)) (fun f2 => ?_)
  · have hp : 0 ≤ m.plen ∧ m.plen ≤ 32 := by obtain ⟨_, _, _, _, _, _, _, h⟩ := h; omega
    rw [maskOf_is hp.1 hp.2, Option.bind_some]
    have e : entM m = ⟨m.family, m.tag, m.prefix_, maskF m.plen, m.next, m.metric⟩ := by unfold entM; rw [if_pos ⟨f2, v2⟩]
    rw [e] at g
    dsimp only
    rw [g, Option.bind_some, ← e]; rfl
  · have e : entM m = ⟨m.family, m.tag, m.prefix_, z4, m.next, m.metric⟩ := by unfold entM; rw [if_neg (fun c => v2 c.2)]
    rw [e] at g
    dsimp only
    rw [g, Option.bind_some, ← e]; rfl
  · have e : entM m = ⟨m.family, m.tag, m.prefix_, z4, m.next, m.metric⟩ := by unfold entM; rw [if_neg (fun c => f2 c.1)]
    rw [e] at g
    dsimp only
    rw [g, Option.bind_some, ← e]; rfl
def togP (f m : Msg) : Prop := m.cmd = f.cmd ∧ m.ver = f.ver ∧ m.auth = f.auth ∧ m.family ≠ 0 ∧ f.family ≠ 0
instance (f m : Msg) : Decidable (togP f m) := by unfold togP; infer_instance
def encGo (f : Msg) (most : Int) : List Msg → Nat → Bs → Bs × Int × Int
  | [], _, acc => (acc, 0, 0)
  | m :: r, i, acc => if (i : Int) = most then ([], (i : Int), 8) else if 0 < i ∧ ¬ togP f m then ([], (i : Int), 7) else encGo f most r (i + 1) (acc ++ lineF m)
theorem tog_is (f m : Msg) : ∃ b, g_rip_together (f, m, ()) = some ((b, ()), ()) ∧ (b = true ↔ togP f m) := by
  rw [g_rip_together_eq]
  by_cases h1 : m.cmd = f.cmd
  · rw [if_pos (by simp [h1])]
    by_cases h2 : m.ver = f.ver
    · rw [if_pos (by simp [h2])]
      by_cases h3 : m.auth = f.auth
      · rw [if_pos (by simp [h3])]
        by_cases h4 : m.family = 0
        · rw [if_neg (by simp [h4])]; exact ⟨_, rfl, by simp [togP, h4]⟩
        · rw [if_pos (by simp [h4])]; exact ⟨_, rfl, by simp [togP, h1, h2, h3, h4]⟩
      · rw [if_neg (by simpa using h3)]; exact ⟨_, rfl, by simp [togP, h3]⟩
    · rw [if_neg (by simpa using h2)]; exact ⟨_, rfl, by simp [togP, h2]⟩
  · rw [if_neg (by simpa using h1)]; exact ⟨_, rfl, by simp [togP, h1]⟩
theorem enc1_loop {n : Nat} {l : List Msg} {f : Msg} {most : Int} (hf : l[0]? = some f) (hok : ∀ m ∈ l, okR m) (hl : l.length ≤ 1000) : ∀ (d m i : Nat) (acc : Bs), i + d = l.length → d < m → acc.length ≤ 1000 + 20 * i →
    L_rip_Encode_1 n m l most acc i = some (((encGo f most (l.drop i) i acc).1, (encGo f most (l.drop i) i acc).2.1, (encGo f most (l.drop i) i acc).2.2, ()), ()) := by
  intro d
  induction d with
  | zero =>
    intro m i acc hd hm ha
    obtain ⟨m, rfl⟩ : ∃ k, m = k + 1 := ⟨m - 1, by omega⟩
    rw [L_rip_Encode_1_eq, ifn (by omega), List.drop_eq_nil_of_le (by omega)]; rfl
  | succ d ih =>
    intro m i acc hd hm ha
    obtain ⟨m, rfl⟩ : ∃ k, m = k + 1 := ⟨m - 1, by omega⟩
    have hi : i < l.length := by omega
    have ho := hok _ (List.getElem_mem hi)
    have := ih m (i + 1) (acc ++ lineF l[i]) (by omega) (by omega) (by simp [lineF_length ho]; omega)
    rw [show ((i + 1 : Nat) : Int) = (i : Int) + 1 by omega] at this
    rw [L_rip_Encode_1_eq, ifd (by omega), if_pos (by omega), Int.toNat_natCast, bind_at hi, List.drop_eq_getElem_cons hi, hf, Option.bind_some, line_is ho, Option.bind_some, if_pos (roomB_of (by rw [lineF_length ho]; omega)), w64 (by omega) (by omega), this, encGo]
    refine bq_step (fun h => ?_) (fun h => ?_)
    · rw [if_pos h]
    rw [if_neg h]
    obtain ⟨b, hb, hb'⟩ := tog_is f l[i]
    rw [hb, Option.bind_some]
    refine dq_step (fun h0 => ?_) (fun h0 => ?_)
    · refine nb_step (fun hz => ?_) (fun hz => ?_)
      · rw [if_pos ⟨by omega, by rw [← hb']; dsimp only at hz; rw [hz]; simp⟩]
      · rw [if_neg (fun c => c.2 (hb'.1 hz))]
    · rw [if_neg (fun c => h0 (by omega))]
open Classical in
noncomputable def badR : List Msg → Nat → Option Nat
  | [], _ => none
  | m :: r, i => if okR m then badR r (i + 1) else some i
def mostR (f : Msg) : Int := if f.auth = [] then 25 else 24
def headE (f : Msg) : Bs := [u8of (f.cmd % 256), u8of (f.ver % 256), 0, 0] ++ (if f.auth = [] then [] else [255, 255] ++ f.auth)
noncomputable def encR (l : List Msg) : Bs × Int × Int := match badR l 0 with
  | some i => ([], (i : Int), 1)
  | none => match l with
    | [] => ([], 0, 8)
    | f :: _ => encGo f (mostR f) l 0 (headE f)
theorem badR_none : ∀ {l : List Msg} {i : Nat}, badR l i = none → ∀ m ∈ l, okR m
  | [], _, _, m, hm => by cases hm
  | x :: r, i, h, m, hm => by
    unfold badR at h
    split at h
    · rename_i hx
      rcases List.mem_cons.1 hm with rfl | hm
      · exact hx
      · exact badR_none h m hm
    · cases h
theorem badR_ok : ∀ {l : List Msg} {i : Nat}, (∀ m ∈ l, okR m) → badR l i = none
  | [], _, _ => rfl
  | x :: r, i, h => by
    unfold badR; rw [if_pos (h x (by simp))]; exact badR_ok (fun m hm => h m (by simp [hm]))
theorem headE_length {f : Msg} (h : okR f) : (headE f).length = if f.auth = [] then 4 else 24 := by
  obtain ⟨_, _, _, _, _, _, ha, _⟩ := h
  unfold headE
  by_cases e : f.auth = []
  · rw [if_pos e, if_pos e]; rfl
  · rw [if_neg e, if_neg e]
    have : f.auth.length = 18 := by rcases ha with h | h; exact absurd h e; exact h.2
    simp [this]
theorem enc_is {l : List Msg} (g : ∀ m ∈ l, RM m) (hl : l.length ≤ 1000) : g_rip_Encode (l, ()) = some (((encR l).1, (encR l).2.1, (encR l).2.2, ()), ()) := by
  show h_rip_Encode fuel (l, ()) = _
  rw [h_rip_Encode_eq]
  have main : ∀ (d m i : Nat), i + d = l.length → d < m → badR l 0 = badR (l.drop i) i → L_rip_Encode_0 fuel m l i = some (((encR l).1, (encR l).2.1, (encR l).2.2, ()), ()) := by
    intro d
    induction d with
    | zero =>
      intro m i hd hm hb
      obtain ⟨m, rfl⟩ : ∃ k, m = k + 1 := ⟨m - 1, by omega⟩
      rw [List.drop_eq_nil_of_le (by omega)] at hb
      have hn : badR l 0 = none := hb
      have hok := badR_none hn
      rw [L_rip_Encode_0_eq, ifn (by omega)]
      cases l with
      | nil => rfl
      | cons f r =>
        have hf := hok f (by simp)
        have hl4 := headE_length hf
        have he : encR (f :: r) = encGo f (mostR f) (f :: r) 0 (headE f) := by unfold encR; rw [hn]
        rw [he, if_neg (by simp; omega)]
        simp only [List.getElem?_cons_zero, Option.bind_some]
        have L := fun (most : Int) (acc : Bs) (h : acc.length ≤ 1000) => enc1_loop (n := fuel) (f := f) (most := most) (l := f :: r) rfl hok hl (f :: r).length fuel 0 acc (by omega) (fuel_ge (by omega)) (by omega)
        rw [g_auth_Put_eq, wu8, wu8]
        by_cases ha : f.auth = []
        · rw [if_pos (by simp [ha]), Option.bind_some]
          have e1 : headE f = [u8of (f.cmd % 256), u8of (f.ver % 256), 0, 0] := by unfold headE; rw [if_pos ha]; rfl
          have e2 : mostR f = 25 := by unfold mostR; rw [if_pos ha]
          dsimp only
          rw [iff_, e1, e2]
          exact L 25 _ (by simp)
        · have h18 : f.auth.length = 18 := by
            obtain ⟨_, _, _, _, _, _, ha', _⟩ := hf
            rcases ha' with h | h
            · exact absurd h ha
            · exact h.2
          rw [if_neg (by simp; omega), if_pos (maxB_of (by omega)), Option.bind_some]
          have e1 : headE f = [u8of (f.cmd % 256), u8of (f.ver % 256), 0, 0] ++ ([255, 255] ++ f.auth) := by unfold headE; rw [if_neg ha]
          have e2 : mostR f = 24 := by unfold mostR; rw [if_neg ha]
          dsimp only
          rw [ift, if_pos (roomB_of (by simp; omega)), e1, e2]
          exact L 24 _ (by simp; omega)
    | succ d ih =>
      intro m i hd hm hb
      obtain ⟨m, rfl⟩ : ∃ k, m = k + 1 := ⟨m - 1, by omega⟩
      have hi : i < l.length := by omega
      rw [List.drop_eq_getElem_cons hi, badR] at hb
      rw [L_rip_Encode_0_eq, ifd (by omega), if_pos (by omega), Int.toNat_natCast, bind_at hi, ripRight_is (g _ (List.getElem_mem hi)), Option.bind_some]
      dsimp only
      by_cases ho : okR l[i]
      · rw [if_pos ho] at hb
        have := ih m (i + 1) (by omega) (by omega) hb
        rw [rightR_true.2 ho, ifnt, w64 (by omega) (by omega)]
        exact this
      · rw [if_neg ho] at hb
        have : rightR l[i] = false := by cases e' : rightR l[i] with | false => rfl | true => exact absurd (rightR_true.1 e') ho
        rw [this, ifnf]
        unfold encR; rw [hb]
  exact main l.length fuel 0 (by omega) (fuel_ge (by omega)) rfl
end Go.VP
set_option linter.unusedVariables false
set_option linter.unusedSimpArgs false
set_option maxRecDepth 100000
namespace Go.VP
open Go Go.VI
theorem goodRM {m : Msg} (g : Good_api_Msg m) (h : Few m) : RM m := by
  obtain ⟨g1, g2, g3, g4, g5, g6, g7, g8, g9, g10, g11, g12, g13, g14, g15, g16, g17, g18, g19, g20, g21, _⟩ := g
  exact ⟨g9, g8, by have := h.list; omega, by have := h.subs; omega⟩
theorem goR_all {P : Msg → Prop} {f : Ent → Msg × Int} {b : Bs} (hf : ∀ e, P (f e).1) : ∀ (k at_ : Nat) (acc : List Msg), (∀ m ∈ acc, P m) → ∀ m ∈ (goR f b k at_ acc).1, P m
  | 0, _, acc, h => h
  | k + 1, at_, acc, h => by
    rw [goR]
    split
    · intro m hm; cases hm
    · exact goR_all hf k (at_ + 20) _ (fun m hm => by
        rcases List.mem_append.1 hm with hm | hm
        · exact h m hm
        · rw [List.mem_singleton] at hm; rw [hm]; exact hf _)
theorem parseR_all {P : Msg → Prop} {b : Bs} (hP : ∀ c v s e, P (routeM c v s e)) : ∀ m ∈ (parseR b).1, P m := by
  unfold parseR
  split
  · intro m hm; cases hm
  split
  · split
    · intro m hm; cases hm
    · exact goR_all (fun e => hP _ _ _ e) _ _ _ (fun m hm => by cases hm)
  · exact goR_all (fun e => hP _ _ _ e) _ _ _ (fun m hm => by cases hm)
end Go.VP
set_option linter.unusedVariables false
set_option linter.unusedSimpArgs false
set_option maxRecDepth 100000
namespace Go.VP
open Go Go.VI
theorem bare_routeM (c v : Int) (s : Bs) (e : Ent) : bareB (routeM c v s e) = true := by
  have : bareOf (routeM c v s e) = some (routeM c v s e) := by unfold bareOf; rw [if_pos (show (routeM c v s e).kind = 1 from rfl)]; rfl
  unfold bareB; rw [this]; exact eqB_refl _
theorem cut_app (s : Bs) (p q : Nat) (n m : Nat) (h : q = p + n) : cut_ s p n ++ cut_ s q m = cut_ s p (n + m : Nat) := by
  subst h
  unfold cut_
  rw [show ((p : Int) + (n : Int)).toNat = p + n by omega, show (((p + n : Nat) : Int) + (m : Int)).toNat = p + n + m by omega, show ((p : Int) + ((n + m : Nat) : Int)).toNat = p + n + m by omega, Int.toNat_natCast, Int.toNat_natCast]
  rw [List.drop_take, List.drop_take, List.drop_take, ← List.drop_drop, show p + n - p = n by omega, show p + n + m - (p + n) = m by omega, show p + n + m - p = n + m by omega, List.take_add]
theorem be2_cut {s : Bs} {p : Nat} (h : p + 2 ≤ s.length) : be 2 (num (cut_ s p 2)) = cut_ s p 2 := be_num 2 _ (cut_len (n := 2) h)
theorem be4_cut {s : Bs} {p : Nat} (h : p + 4 ≤ s.length) : be 4 (num (cut_ s p 4)) = cut_ s p 4 := be_num 4 _ (cut_len (n := 4) h)
theorem entB_entF {s : Bs} (h : s.length = 20) : entB (entF s) = s := by
  unfold entB entF
  dsimp only
  have a := be2_cut (s := s) (p := 0) (by omega)
  have b := be2_cut (s := s) (p := 2) (by omega)
  have c := be4_cut (s := s) (p := 16) (by omega)
  rw [show ((0 : Nat) : Int) = 0 from rfl] at a
  rw [show ((2 : Nat) : Int) = 2 from rfl] at b
  rw [show ((16 : Nat) : Int) = 16 from rfl] at c
  rw [a, b, c]
  have e1 : cut_ s 0 2 ++ cut_ s 2 2 = cut_ s 0 4 := cut_app s 0 2 2 2 rfl
  have e2 : cut_ s 0 4 ++ cut_ s 4 4 = cut_ s 0 8 := cut_app s 0 4 4 4 rfl
  have e3 : cut_ s 0 8 ++ cut_ s 8 4 = cut_ s 0 12 := cut_app s 0 8 8 4 rfl
  have e4 : cut_ s 0 12 ++ cut_ s 12 4 = cut_ s 0 16 := cut_app s 0 12 12 4 rfl
  have e5 : cut_ s 0 16 ++ cut_ s 16 4 = cut_ s 0 20 := cut_app s 0 16 16 4 rfl
  have f : cut_ s 0 20 = s := by unfold cut_; simp [← h]
  rw [e1, e2, e3, e4, e5, f]
theorem route_good {c v : Int} {s : Bs} {al : Bool} {e : Ent} (h : EntOk e) (hc : c = 1 ∨ c = 2) (hv : v = 1 ∨ v = 2) (hs : s = [] ∨ (v = 2 ∧ s.length = 18)) (he : errR c v s al e = 0) : okR (routeM c v s e) ∧ entM (routeM c v s e) = e ∧ (e.family = 0 → al = true) := by
  unfold errR at he
  by_cases f0 : e.family = 0
  · rw [if_pos f0] at he
    split at he
    · rename_i hh
      obtain ⟨ha, hm, ho⟩ := hh
      refine ⟨ho, ?_, fun _ => ha⟩
      unfold entM routeM
      dsimp only
      rw [if_neg (by omega), ← hm]
    · simp at he
  rw [if_neg f0] at he
  split at he
  · simp at he
  rename_i f2
  have f2 : e.family = 2 := by omega
  have h1 := h.tag
  by_cases v1 : v = 1
  · rw [if_pos v1] at he
    split at he
    · simp at he
    rename_i hz
    split at he
    · simp at he
    rename_i hm
    have hz1 : e.tag = 0 := by grind
    have hz2 : e.mask = z4 := by grind
    have hz3 : e.next = z4 := by grind
    refine ⟨⟨rfl, bare_routeM .., hc, hv, h.addr, h.next, hs, .inr ⟨f2, ?_, ?_, .inl ⟨v1, hz1, ?_, hz3⟩⟩⟩, ?_, fun c => absurd c f0⟩
    · show 1 ≤ e.metric; omega
    · show e.metric ≤ 16; omega
    · show (if e.family = 0 then (0 : Int) else if v = 1 then 32 else (plenF e.mask).1) = 32
      rw [if_neg f0, if_pos v1]
    · unfold entM routeM
      dsimp only
      rw [if_neg (by omega), ← hz2]
  · rw [if_neg v1] at he
    split at he
    · simp at he
    rename_i hp
    split at he
    · simp at he
    rename_i hm
    have hp1 : (plenF e.mask).2 = true := by grind
    have hp2 : cleanB e.addr (plenF e.mask).1 = true := by grind
    have hk := plenF_ok hp1
    have hpl : (routeM c v s e).plen = (plenF e.mask).1 := by
      show (if e.family = 0 then (0 : Int) else if v = 1 then 32 else (plenF e.mask).1) = _
      rw [if_neg f0, if_neg v1]
    refine ⟨⟨rfl, bare_routeM .., hc, hv, h.addr, h.next, hs, .inr ⟨f2, ?_, ?_, .inr ⟨?_, ?_, ?_, ?_, ?_, ?_⟩⟩⟩, ?_, fun c => absurd c f0⟩
    · show 1 ≤ e.metric; omega
    · show e.metric ≤ 16; omega
    · show v = 2; omega
    · show 0 ≤ e.tag; omega
    · show e.tag ≤ 65535; omega
    · rw [hpl]; omega
    · rw [hpl]; omega
    · rw [hpl]; exact hp2
    · unfold entM
      rw [hpl, if_pos (show (routeM c v s e).family = 2 ∧ (routeM c v s e).ver = 2 from ⟨f2, by show v = 2; omega⟩), hk.2.2]; rfl
theorem go_good {c v : Int} {s : Bs} {al : Bool} {b : Bs} (hc : c = 1 ∨ c = 2) (hv : v = 1 ∨ v = 2) (hs : s = [] ∨ (v = 2 ∧ s.length = 18)) : ∀ (k at_ : Nat) (acc : List Msg), at_ + 20 * k = b.length → (goR (rt c v s al) b k at_ acc).2.2 = 0 →
    ∃ r, (goR (rt c v s al) b k at_ acc) = (acc ++ r, 0, 0) ∧ r.length = k ∧ (∀ m ∈ r, okR m ∧ m.cmd = c ∧ m.ver = v ∧ m.auth = s ∧ (m.family = 0 → al = true)) ∧ r.flatMap lineF = b.drop at_
  | 0, at_, acc, h, _ => ⟨[], by simp [goR], rfl, by simp, by simp; omega⟩
  | k + 1, at_, acc, h, he => by
    have hl : (cut_ b at_ 20).length = 20 := cut_len (n := 20) (by omega)
    rw [goR] at he ⊢
    by_cases h0 : (rt c v s al (entF (cut_ b at_ 20))).2 = 0
    · rw [if_neg (fun c => c h0)] at he ⊢
      obtain ⟨r, h1, h2, h3, h4⟩ := go_good hc hv hs k (at_ + 20) _ (by omega) he
      obtain ⟨o1, o2, o3⟩ := route_good (al := al) (entF_ok hl) hc hv hs h0
      refine ⟨routeM c v s (entF (cut_ b at_ 20)) :: r, by rw [h1]; simp [rt], by simp [h2], fun m hm => ?_, ?_⟩
      · rcases List.mem_cons.1 hm with rfl | hm
        · exact ⟨o1, rfl, rfl, rfl, o3⟩
        · exact h3 m hm
      · rw [List.flatMap_cons, h4]
        unfold lineF
        rw [o2, entB_entF hl]
        have : cut_ b at_ 20 = (b.drop at_).take 20 := by
          unfold cut_
          rw [show ((at_ : Int) + 20).toNat = at_ + 20 by omega, Int.toNat_natCast, List.drop_take, show at_ + 20 - at_ = 20 by omega]
        rw [this, ← List.drop_drop, List.take_append_drop]
    · rw [if_pos h0] at he; exact absurd he h0
theorem enc_good {f : Msg} {most : Int} : ∀ (l : List Msg) (i : Nat) (acc : Bs), (i + l.length : Nat) ≤ most → (∀ (j : Nat) (h : j < l.length), 0 < i + j → togP f l[j]) → encGo f most l i acc = (acc ++ l.flatMap lineF, 0, 0)
  | [], i, acc, _, _ => by simp [encGo]
  | m :: r, i, acc, h, ht => by
    rw [encGo, if_neg (by simp at h; omega), if_neg (fun c => c.2 (ht 0 (by simp) (by omega))), enc_good r (i + 1) _ (by simp at h ⊢; omega) (fun j hj _ => by
      have := ht (j + 1) (by simp; omega) (by omega)
      simpa using this)]
    simp
end Go.VP
set_option linter.unusedVariables false
set_option linter.unusedSimpArgs false
set_option maxRecDepth 100000
namespace Go.VP
open Go Go.VI
theorem parse_good {b : Bs} (h : (parseR b).2.2 = 0) : ∃ r, parseR b = (r, 0, 0) ∧ 1 ≤ r.length ∧ r.length ≤ 25 ∧ (∀ m ∈ r, okR m) ∧ encR r = (b, 0, 0) := by
  unfold parseR at h ⊢
  by_cases h0 : (headR b).2 = 0
  rotate_left
  · rw [if_pos h0] at h; exact absurd h h0
  obtain ⟨k1, k2, k3, k4, k5, k6, k7⟩ := headR_ok h0
  rw [if_neg (fun c => c h0)] at h ⊢
  obtain ⟨w, x, y, z, t, rfl⟩ := four_of (b := b) (by omega)
  have e0 : bt (w :: x :: y :: z :: t) 0 = (w.toNat : Int) := rfl
  have e1 : bt (w :: x :: y :: z :: t) 1 = (x.toNat : Int) := rfl
  have hy : y = 0 := u8_eq (show (y.toNat : Int) = ((0 : UInt8).toNat : Int) from k5)
  have hz : z = 0 := u8_eq (show (z.toNat : Int) = ((0 : UInt8).toNat : Int) from k6)
  subst hy; subst hz
  have fin : ∀ (r : List Msg) (s : Bs) (al : Bool) (at_ : Nat), (s = [] ∨ (bt (w :: x :: 0 :: 0 :: t) 1 = 2 ∧ s.length = 18)) → (al = true → r.length = 1) → 1 ≤ r.length → r.length + (if s = [] then 0 else 1) ≤ 25 →
      (∀ m ∈ r, okR m ∧ m.cmd = bt (w :: x :: 0 :: 0 :: t) 0 ∧ m.ver = bt (w :: x :: 0 :: 0 :: t) 1 ∧ m.auth = s ∧ (m.family = 0 → al = true)) → r.flatMap lineF = (w :: x :: 0 :: 0 :: t).drop at_ → [w, x, 0, 0] ++ (if s = [] then [] else [255, 255] ++ s) = (w :: x :: 0 :: 0 :: t).take at_ → encR r = (w :: x :: 0 :: 0 :: t, 0, 0) := by
    intro r s al at_ hs hal hr1 hr2 hm hfl htk
    unfold encR
    rw [badR_ok (fun m h => (hm m h).1)]
    cases r with
    | nil => simp at hr1
    | cons f r =>
      obtain ⟨f1, f2, f3, f4, f5⟩ := hm f (by simp)
      dsimp only
      have hmo : (((f :: r).length : Nat) : Int) ≤ mostR f := by
        unfold mostR
        rw [f4]
        by_cases hs0 : s = []
        · rw [if_pos hs0] at hr2 ⊢; omega
        · rw [if_neg hs0] at hr2 ⊢; omega
      rw [enc_good (f :: r) 0 _ (by simpa using hmo) (fun j hj h0 => ?_)]
      · have : headE f = (w :: x :: 0 :: 0 :: t).take at_ := by
          rw [← htk]
          unfold headE
          rw [f2, f3, f4, e0, e1, u8of_emod' (by omega), u8of_emod' (by omega), u8of_nat, u8of_nat]
        rw [this, hfl, List.take_append_drop]
      · obtain ⟨g1, g2, g3, g4, g5⟩ := hm ((f :: r)[j]) (List.getElem_mem hj)
        have nal : ¬ al = true := fun c => by have := hal c; omega
        exact ⟨by rw [g2, f2], by rw [g3, f3], by rw [g4, f4], fun c => nal (g5 c), fun c => nal (f5 c)⟩
  generalize hB : (w :: x :: 0 :: 0 :: t) = B at *
  have hl : (cut_ B 4 20).length = 20 := cut_len (p := 4) (n := 20) (by omega)
  have tk4 : B.take 4 = [w, x, 0, 0] := by rw [← hB]; rfl
  by_cases h1 : bt B 1 = 2 ∧ authB (cut_ B 4 20) = true
  · rw [if_pos h1] at h ⊢
    by_cases h2 : B.length = 24
    · rw [if_pos h2] at h; simp at h
    rw [if_neg h2] at h ⊢
    have hs : ((cut_ B 4 20).drop 2).length = 18 := by simp [hl]
    obtain ⟨r, r1, r2, r3, r4⟩ := go_good k3 k4 (.inr ⟨h1.1, hs⟩) ((B.length - 24) / 20) 24 [] (by omega) h
    rw [r1]
    refine ⟨r, by simp, by omega, by omega, fun m hm => (r3 m hm).1, fin r _ _ 24 (.inr ⟨h1.1, hs⟩) (fun c => by simp at c; omega) (by omega) (by split <;> omega) r3 r4 ?_⟩
    have hne : ¬ ((cut_ B 4 20).drop 2 = []) := fun c => by rw [c] at hs; simp at hs
    rw [if_neg hne, ← tk4]
    have h2 : (cut_ B 4 20).take 2 = [255, 255] := by have := h1.2; unfold authB at this; simpa using this
    rw [← h2, List.take_append_drop]
    have : cut_ B 4 20 = (B.take 24).drop 4 := rfl
    rw [this]
    have := List.take_append_drop 4 (B.take 24)
    rw [List.take_take, show min 4 24 = 4 by decide] at this
    exact this
  · rw [if_neg h1] at h ⊢
    obtain ⟨r, r1, r2, r3, r4⟩ := go_good k3 k4 (.inl rfl) ((B.length - 4) / 20) 4 [] (by omega) h
    rw [r1]
    exact ⟨r, by simp, by omega, by omega, fun m hm => (r3 m hm).1, fin r _ _ 4 (.inl rfl) (fun c => by simp at c; omega) (by omega) (by simp; omega) r3 r4 (by rw [if_pos rfl, tk4]; rfl)⟩
end Go.VP
set_option linter.unusedVariables false
set_option linter.unusedSimpArgs false
set_option maxRecDepth 100000
namespace Go.VP
open Go Go.VI
theorem encGo_ok {f : Msg} {most : Int} : ∀ (l : List Msg) (i : Nat) (acc : Bs), (i : Int) ≤ most → (encGo f most l i acc).2.2 = 0 → ((i + l.length : Nat) : Int) ≤ most ∧ (∀ (j : Nat) (h : j < l.length), 0 < i + j → togP f l[j])
  | [], i, acc, hi, h => ⟨by simpa using hi, fun j hj => by simp at hj⟩
  | m :: r, i, acc, hi, h => by
    rw [encGo] at h
    by_cases h1 : (i : Int) = most
    · rw [if_pos h1] at h; simp at h
    · rw [if_neg h1] at h
      by_cases h2 : 0 < i ∧ ¬ togP f m
      · rw [if_pos h2] at h; simp at h
      · rw [if_neg h2] at h
        obtain ⟨a, b⟩ := encGo_ok r (i + 1) _ (by omega) h
        refine ⟨by simp only [List.length_cons]; omega, fun j hj h0 => ?_⟩
        cases j with
        | zero =>
          show togP f m
          exact Classical.byContradiction fun c => h2 ⟨by omega, c⟩
        | succ j =>
          have := b j (by simpa using hj) (by omega)
          simpa using this
theorem num_be2R {n : Int} (h : 0 ≤ n ∧ n ≤ 65535) : num (be 2 n) = n := num_be 2 n h.1 (by omega)
theorem num_be4 {n : Int} (h : 0 ≤ n ∧ n ≤ 4294967295) : num (be 4 n) = n := num_be 4 n h.1 (by omega)
theorem cut_at (a m z : Bs) (p n : Int) (hp : p = a.length) (hn : n = m.length) : cut_ (a ++ (m ++ z)) p n = m := by
  subst hp; subst hn
  unfold cut_
  rw [show ((a.length : Int) + (m.length : Int)).toNat = a.length + m.length by omega, Int.toNat_natCast, ← List.append_assoc, List.take_left' (by simp), List.drop_left' rfl]
theorem entF_entB {e : Ent} (h : EntOk e) : entF (entB e) = e := by
  obtain ⟨a, b, c, d, f, g⟩ := e
  have h1 := h.addr; have h2 := h.mask; have h3 := h.next; have h4 := h.fam; have h5 := h.tag; have h6 := h.metric
  dsimp only at h1 h2 h3 h4 h5 h6
  have l2 := be_length 2
  have l4 := be_length 4
  have c1 : cut_ (entB ⟨a, b, c, d, f, g⟩) 0 2 = be 2 a := by
    have := cut_at [] (be 2 a) (be 2 b ++ (c ++ (d ++ (f ++ be 4 g)))) 0 2 rfl (by rw [l2]; rfl)
    rw [← this]; unfold entB; simp only [List.append_assoc, List.nil_append]
  have c2 : cut_ (entB ⟨a, b, c, d, f, g⟩) 2 2 = be 2 b := by
    have := cut_at (be 2 a) (be 2 b) (c ++ (d ++ (f ++ be 4 g))) 2 2 (by rw [l2]; rfl) (by rw [l2]; rfl)
    unfold entB; simp only [List.append_assoc] at this ⊢; exact this
  have c3 : cut_ (entB ⟨a, b, c, d, f, g⟩) 4 4 = c := by
    have := cut_at (be 2 a ++ be 2 b) c (d ++ (f ++ be 4 g)) 4 4 (by simp [l2]) (by rw [h1]; rfl)
    unfold entB; simp only [List.append_assoc] at this ⊢; exact this
  have c4 : cut_ (entB ⟨a, b, c, d, f, g⟩) 8 4 = d := by
    have := cut_at (be 2 a ++ be 2 b ++ c) d (f ++ be 4 g) 8 4 (by simp [l2, h1]) (by rw [h2]; rfl)
    unfold entB; simp only [List.append_assoc] at this ⊢; exact this
  have c5 : cut_ (entB ⟨a, b, c, d, f, g⟩) 12 4 = f := by
    have := cut_at (be 2 a ++ be 2 b ++ c ++ d) f (be 4 g) 12 4 (by simp [l2, h1, h2]) (by rw [h3]; rfl)
    unfold entB; simp only [List.append_assoc] at this ⊢; exact this
  have c6 : cut_ (entB ⟨a, b, c, d, f, g⟩) 16 4 = be 4 g := by
    have := cut_at (be 2 a ++ be 2 b ++ c ++ d ++ f) (be 4 g) [] 16 4 (by simp [l2, h1, h2, h3]) (by rw [l4]; rfl)
    rw [← this]; unfold entB; simp only [List.append_assoc, List.append_nil]
  unfold entF
  rw [c1, c2, c3, c4, c5, c6, num_be2R h4, num_be2R h5, num_be4 h6]
theorem bare_back {m : Msg} (h1 : m.kind = 1) (h : bareB m = true) : m = ⟨1, m.cmd, m.ver, m.auth, m.family, 0, m.prefix_, m.plen, m.tag, m.next, m.metric, [], 0, 0, 0, 0, 0, 0, 0, [], [], [], 0, [], []⟩ := by
  have hb : bareOf m = some ⟨m.kind, m.cmd, m.ver, m.auth, m.family, 0, m.prefix_, m.plen, m.tag, m.next, m.metric, [], 0, 0, 0, 0, 0, 0, 0, [], [], [], 0, [], []⟩ := by unfold bareOf; rw [if_pos h1]
  unfold bareB at h
  rw [hb] at h
  have := eqB_true'.1 h
  rw [h1] at this
  exact this
theorem route_back {m : Msg} {al : Bool} (h : okR m) (ha : m.family = 0 → al = true) : rt m.cmd m.ver m.auth al (entM m) = (m, 0) := by
  have hb := bare_back h.1 h.2.1
  have ho := h
  obtain ⟨_, _, hc, hv, hp, hn, hau, hx⟩ := h
  have hM : routeM m.cmd m.ver m.auth (entM m) = m := by
    have hpl : (if (entM m).family = 0 then (0 : Int) else if m.ver = 1 then 32 else (plenF (entM m).mask).1) = m.plen := by
      show (if m.family = 0 then (0 : Int) else if m.ver = 1 then 32 else (plenF (if m.family = 2 ∧ m.ver = 2 then maskF m.plen else z4)).1) = m.plen
      rcases hx with ⟨f0, _, _, p0, _⟩ | ⟨f2, _, _, ⟨v1, _, p32, _⟩ | ⟨v2, _, _, p1, p2, _⟩⟩
      · rw [if_pos f0, p0]
      · rw [if_neg (by omega), if_pos v1, p32]
      · rw [if_neg (by omega), if_neg (by omega), if_pos ⟨f2, v2⟩, plenF_maskF p1 p2]
    unfold routeM
    rw [hpl]
    exact hb.symm
  unfold rt
  rw [hM]
  have : errR m.cmd m.ver m.auth al (entM m) = 0 := by
    unfold errR
    rw [hM]
    rcases hx with ⟨f0, _, _, p0, _⟩ | ⟨f2, m1, m2, ⟨v1, t0, p32, nz⟩ | ⟨v2, _, _, p1, p2, hcl⟩⟩
    · rw [if_pos (show (entM m).family = 0 from f0), if_pos ⟨ha f0, by show (if m.family = 2 ∧ m.ver = 2 then maskF m.plen else z4) = z4; rw [if_neg (by omega)], ho⟩]
    · have e1 : (entM m).mask = z4 := by show (if m.family = 2 ∧ m.ver = 2 then maskF m.plen else z4) = z4; rw [if_neg (by omega)]
      rw [if_neg (show ¬ (entM m).family = 0 by show ¬ m.family = 0; omega), if_neg (show ¬ (entM m).family ≠ 2 by show ¬ m.family ≠ 2; omega), if_pos v1, if_neg (by rintro (c | c | c); exact c t0; exact c e1; exact c nz), if_neg (show ¬ ((entM m).metric < 1 ∨ 16 < (entM m).metric) by show ¬ (m.metric < 1 ∨ 16 < m.metric); omega)]
    · have e1 : (entM m).mask = maskF m.plen := by show (if m.family = 2 ∧ m.ver = 2 then maskF m.plen else z4) = _; rw [if_pos ⟨f2, v2⟩]
      rw [if_neg (show ¬ (entM m).family = 0 by show ¬ m.family = 0; omega), if_neg (show ¬ (entM m).family ≠ 2 by show ¬ m.family ≠ 2; omega), if_neg (by omega), e1, plenF_maskF p1 p2, if_neg (fun c => c ⟨rfl, hcl⟩), if_neg (show ¬ ((entM m).metric < 1 ∨ 16 < (entM m).metric) by show ¬ (m.metric < 1 ∨ 16 < m.metric); omega)]
  rw [this]
theorem go_back {c v : Int} {s : Bs} {al : Bool} {b : Bs} : ∀ (l : List Msg) (at_ : Nat) (acc : List Msg), (∀ m ∈ l, okR m ∧ m.cmd = c ∧ m.ver = v ∧ m.auth = s ∧ (m.family = 0 → al = true)) → b.drop at_ = l.flatMap lineF → goR (rt c v s al) b l.length at_ acc = (acc ++ l, 0, 0)
  | [], at_, acc, _, _ => by simp [goR]
  | m :: r, at_, acc, hm, hd => by
    obtain ⟨h1, h2, h3, h4, h5⟩ := hm m (by simp)
    have hl := lineF_length h1
    rw [List.flatMap_cons] at hd
    have hcut : cut_ b at_ 20 = lineF m := by
      unfold cut_
      rw [show ((at_ : Int) + 20).toNat = at_ + 20 by omega, Int.toNat_natCast, List.drop_take, show at_ + 20 - at_ = 20 by omega, hd, List.take_left' hl]
    have hn : b.drop (at_ + 20) = r.flatMap lineF := by rw [← List.drop_drop, hd, List.drop_left' hl]
    have hr := route_back (al := al) h1 h5
    rw [h2, h3, h4] at hr
    rw [List.length_cons, goR, hcut]
    unfold lineF
    rw [entF_entB (entM_ok h1), hr, if_neg (by simp), go_back r (at_ + 20) _ (fun x hx => hm x (by simp [hx])) hn]
    simp
theorem flat_len : ∀ {l : List Msg}, (∀ m ∈ l, okR m) → (l.flatMap lineF).length = 20 * l.length
  | [], _ => rfl
  | m :: r, h => by
    rw [List.flatMap_cons, List.length_append, lineF_length (h m (by simp)), flat_len (fun x hx => h x (by simp [hx])), List.length_cons]; omega
theorem headR_of {b : Bs} (k1 : 24 ≤ b.length) (k2 : b.length ≤ 504) (k3 : bt b 0 = 1 ∨ bt b 0 = 2) (k4 : bt b 1 = 1 ∨ bt b 1 = 2) (k5 : bt b 2 = 0 ∧ bt b 3 = 0) (k7 : ((b.length : Int) - 4) % 20 = 0) : headR b = (0, 0) := by
  unfold headR
  rw [if_neg (by omega), if_neg (fun c => c k3), if_neg (fun c => c k4), if_neg (fun c => c k5), if_neg (by omega), if_neg (by omega), if_neg (by omega)]
theorem parse_back {f : Msg} {r : List Msg} (hok : ∀ m ∈ f :: r, okR m) (ht : ∀ m ∈ r, togP f m) (hfam : f.family = 0 → r = []) (hlen : (((f :: r).length : Nat) : Int) ≤ mostR f) : parseR (headE f ++ (f :: r).flatMap lineF) = (f :: r, 0, 0) := by
  have hf := hok f (by simp)
  have hl := headE_length hf
  have hfl := flat_len hok
  have hfo := hf
  obtain ⟨_, _, hc, hv, _, _, hau, hx⟩ := hf
  have hmem : ∀ al : Bool, (r = [] → al = true) → ∀ m ∈ f :: r, okR m ∧ m.cmd = f.cmd ∧ m.ver = f.ver ∧ m.auth = f.auth ∧ (m.family = 0 → al = true) := fun al hal m hm => by
    refine ⟨hok m hm, ?_⟩
    rcases List.mem_cons.1 hm with rfl | hm
    · exact ⟨rfl, rfl, rfl, fun c => hal (hfam c)⟩
    · obtain ⟨t1, t2, t3, t4, _⟩ := ht m hm
      exact ⟨t1, t2, t3, fun c => absurd c t4⟩
  have ub : ∀ x : Int, x = 1 ∨ x = 2 → ((u8of (x % 256)).toNat : Int) = x := fun x hx => by rw [u8of_int]; omega
  have hline : ∃ p q t, lineF f = p :: q :: t ∧ ¬ (p = 255) := by
    have : be 2 f.family = [0, 0] ∨ be 2 f.family = [0, 2] := by
      rcases hx with ⟨f0, _⟩ | ⟨f2, _⟩
      · rw [f0]; exact .inl rfl
      · rw [f2]; exact .inr rfl
    unfold lineF entB entM
    dsimp only
    rcases this with e | e <;> rw [e] <;> exact ⟨_, _, _, rfl, by decide⟩
  by_cases ha : f.auth = []
  · have hE : headE f = [u8of (f.cmd % 256), u8of (f.ver % 256), 0, 0] := by unfold headE; rw [if_pos ha]; rfl
    rw [if_pos ha] at hl
    generalize hX : (f :: r).flatMap lineF = X at *
    have hb : headE f ++ X = u8of (f.cmd % 256) :: u8of (f.ver % 256) :: 0 :: 0 :: X := by rw [hE]; rfl
    rw [hb]
    have b0 : bt (u8of (f.cmd % 256) :: u8of (f.ver % 256) :: 0 :: 0 :: X) 0 = f.cmd := ub _ hc
    have b1 : bt (u8of (f.cmd % 256) :: u8of (f.ver % 256) :: 0 :: 0 :: X) 1 = f.ver := ub _ hv
    have b2 : bt (u8of (f.cmd % 256) :: u8of (f.ver % 256) :: 0 :: 0 :: X) 2 = 0 := rfl
    have b3 : bt (u8of (f.cmd % 256) :: u8of (f.ver % 256) :: 0 :: 0 :: X) 3 = 0 := rfl
    have dr : (u8of (f.cmd % 256) :: u8of (f.ver % 256) :: 0 :: 0 :: X).drop 4 = X := rfl
    have hL : (u8of (f.cmd % 256) :: u8of (f.ver % 256) :: 0 :: 0 :: X).length = 4 + 20 * (f :: r).length := by simp only [List.length_cons] at hfl ⊢; omega
    have hm25 : (f :: r).length ≤ 25 := by unfold mostR at hlen; rw [if_pos ha] at hlen; omega
    have h1 : 1 ≤ (f :: r).length := by simp
    have hna : ¬ authB (cut_ (u8of (f.cmd % 256) :: u8of (f.ver % 256) :: 0 :: 0 :: X) 4 20) = true := by
      have e : cut_ (u8of (f.cmd % 256) :: u8of (f.ver % 256) :: 0 :: 0 :: X) 4 20 = X.take 20 := by
        show ((u8of (f.cmd % 256) :: u8of (f.ver % 256) :: 0 :: 0 :: X).take 24).drop 4 = X.take 20
        rfl
      rw [e]
      obtain ⟨p, q, t, e1, e2⟩ := hline
      have : X = p :: q :: (t ++ r.flatMap lineF) := by rw [← hX, List.flatMap_cons, e1]; rfl
      rw [this]
      simp [authB, e2]
    generalize hB : u8of (f.cmd % 256) :: u8of (f.ver % 256) :: 0 :: 0 :: X = B at *
    unfold parseR
    rw [headR_of (by omega) (by omega) (by rw [b0]; exact hc) (by rw [b1]; exact hv) ⟨b2, b3⟩ (by omega), if_neg (by simp), if_neg (fun c => hna c.2), show (B.length - 4) / 20 = (f :: r).length by omega, b0, b1]
    have := go_back (c := f.cmd) (v := f.ver) (s := []) (al := decide (B.length = 24)) (b := B) (f :: r) 4 [] (by have := hmem (decide (B.length = 24)) (fun c => by rw [c] at hL; simp at hL; simp; omega); rw [ha] at this; exact this) (by rw [dr, hX])
    rw [this]; rfl
  · have h18 : f.ver = 2 ∧ f.auth.length = 18 := by rcases hau with h | h; exact absurd h ha; exact h
    have hE : headE f = [u8of (f.cmd % 256), u8of (f.ver % 256), 0, 0] ++ ([255, 255] ++ f.auth) := by unfold headE; rw [if_neg ha]
    rw [if_neg ha] at hl
    generalize hX : (f :: r).flatMap lineF = X at *
    have hb : headE f ++ X = u8of (f.cmd % 256) :: u8of (f.ver % 256) :: 0 :: 0 :: (([255, 255] ++ f.auth) ++ X) := by rw [hE]; rfl
    have dr : (headE f ++ X).drop 24 = X := List.drop_left' hl
    have hL : (headE f ++ X).length = 24 + 20 * (f :: r).length := by rw [List.length_append, hl, hfl]
    rw [hb] at dr hL ⊢
    generalize hY : ([255, 255] ++ f.auth) ++ X = Y at *
    have b0 : bt (u8of (f.cmd % 256) :: u8of (f.ver % 256) :: 0 :: 0 :: Y) 0 = f.cmd := ub _ hc
    have b1 : bt (u8of (f.cmd % 256) :: u8of (f.ver % 256) :: 0 :: 0 :: Y) 1 = f.ver := ub _ hv
    have b2 : bt (u8of (f.cmd % 256) :: u8of (f.ver % 256) :: 0 :: 0 :: Y) 2 = 0 := rfl
    have b3 : bt (u8of (f.cmd % 256) :: u8of (f.ver % 256) :: 0 :: 0 :: Y) 3 = 0 := rfl
    have hm24 : (f :: r).length ≤ 24 := by unfold mostR at hlen; rw [if_neg ha] at hlen; omega
    have h1 : 1 ≤ (f :: r).length := by simp
    have e : cut_ (u8of (f.cmd % 256) :: u8of (f.ver % 256) :: 0 :: 0 :: Y) 4 20 = [255, 255] ++ f.auth := by
      show Y.take 20 = _
      rw [← hY, List.take_left' (by simp [h18.2])]
    generalize hB : u8of (f.cmd % 256) :: u8of (f.ver % 256) :: 0 :: 0 :: Y = B at *
    unfold parseR
    rw [headR_of (by omega) (by omega) (by rw [b0]; exact hc) (by rw [b1]; exact hv) ⟨b2, b3⟩ (by omega), if_neg (by simp), e, if_pos ⟨by rw [b1]; exact h18.1, rfl⟩, if_neg (by omega), show (B.length - 24) / 20 = (f :: r).length by omega, b0, b1, show (([255, 255] : Bs) ++ f.auth).drop 2 = f.auth from rfl]
    have := go_back (c := f.cmd) (v := f.ver) (s := f.auth) (al := decide (B.length = 44)) (b := B) (f :: r) 24 [] (hmem _ (fun c => by rw [c] at hL; simp at hL; simp; omega)) (by rw [dr, hX])
    rw [this]; rfl
end Go.VP
set_option linter.unusedVariables false
set_option linter.unusedSimpArgs false
set_option maxRecDepth 100000
namespace Go.VP
open Go Go.VI
def extB (l : List Sub) : Bool := l.all (subB 0 255)
def AllE (l : List Sub) : Prop := ∀ y ∈ l, 0 ≤ y.type_ ∧ y.type_ ≤ 255 ∧ y.data.length ≤ 255
theorem allE_iff {l : List Sub} : extB l = true ↔ AllE l := by simp [extB, subB, AllE]
theorem eright_is {l : List Sub} (hl : l.length ≤ 1000000000) : g_ext_Right (l, ()) = some ((extB l, ()), ()) := by
  rw [g_ext_Right_eq, subs_is hl]; rfl
theorem u8t {y : Sub} (h : 0 ≤ y.type_ ∧ y.type_ ≤ 255 ∧ y.data.length ≤ 255) : u8of (IntKind.wrap .u8 y.type_) = u8of y.type_ ∧ u8of (IntKind.wrap .u8 (y.data.length : Int)) = u8of y.data.length := by
  rw [wu8, wu8, u8of_emod' h.1, u8of_emod' (by omega)]; exact ⟨rfl, rfl⟩
theorem eput_loop {l : List Sub} {n : Nat} (hr : AllE l) (h1 : l.length ≤ 1000000) : ∀ (d m i : Nat) (acc : Bs), i + d = l.length → d < m → acc.length ≤ 257 * i →
    L_ext_Put_0 n m l acc i = some ((acc ++ encS (l.drop i), true, ()), ()) := by
  intro d
  induction d with
  | zero =>
    intro m i acc hd hm ha
    obtain ⟨m, rfl⟩ : ∃ k, m = k + 1 := ⟨m - 1, by omega⟩
    rw [L_ext_Put_0_eq, ifn (by omega), List.drop_eq_nil_of_le (by omega), encS, List.append_nil]
  | succ d ih =>
    intro m i acc hd hm ha
    obtain ⟨m, rfl⟩ : ∃ k, m = k + 1 := ⟨m - 1, by omega⟩
    have hlt : i < l.length := by omega
    have hy := hr l[i] (List.getElem_mem hlt)
    have := ih m (i + 1) (acc ++ [u8of l[i].type_, u8of l[i].data.length] ++ l[i].data) (by omega) (by omega) (by simp; omega)
    rw [show ((i + 1 : Nat) : Int) = (i : Int) + 1 by omega] at this
    rw [L_ext_Put_0_eq, ifd (by omega), if_pos (by omega), Int.toNat_natCast, bind_at hlt, (u8t hy).1, (u8t hy).2, if_pos (roomB_of (by simp; omega)), if_pos (roomB_of (by simp; omega)), w64 (by omega) (by omega), this, List.drop_eq_getElem_cons hlt, encS]
    simp
def putE (l : List Sub) : Bs × Bool := if extB l = true then (encS l, true) else ([], false)
theorem putE_ok {l : List Sub} (h : extB l = true) : putE l = (encS l, true) := by unfold putE; rw [if_pos h]
theorem eput_is {l : List Sub} (hl : FewS l) (h1 : l.length ≤ 1000000) : g_ext_Put (l, ()) = some (((putE l).1, (putE l).2, ()), ()) := by
  show h_ext_Put fuel _ = _
  have hs := sumN_rng hl
  rw [h_ext_Put_eq, eright_is hl.1, Option.bind_some]
  unfold putE
  dsimp only
  by_cases h : extB l = true
  · have := eput_loop (n := fuel) (allE_iff.1 h) h1 l.length fuel 0 [] (by omega) (fuel_ge (by omega)) (by simp)
    rw [show ((0 : Nat) : Int) = 0 from rfl] at this
    rw [h, ifnt, bytes_is hl, Option.bind_some, if_pos (show 0 ≤ sumN l ∧ sumN l ≤ roomI by unfold roomI; omega), this, ift]
    simp
  · rw [Bool.not_eq_true] at h
    rw [h, ifnf, iff_]
def goE (s : Bs) : Nat → Nat → List Sub → List Sub × Int × Int
  | 0, _, acc => (acc, 0, 0)
  | d + 1, p, acc =>
    if p < s.length then
      if (s.length : Int) < p + 2 + bt s (p + 1) then ([], p, 2)
      else goE s d (p + 2 + (bt s (p + 1)).toNat) (acc ++ [⟨bt s p, cut_ s (p + 2) (bt s (p + 1))⟩])
    else (acc, 0, 0)
def getE (s : Bs) : List Sub × Int × Int := goE s (s.length + 1) 0 []
end Go.VP
set_option linter.unusedVariables false
set_option linter.unusedSimpArgs false
set_option maxRecDepth 100000
namespace Go.VP
open Go Go.VI
theorem cut_dropN (b : Bs) (p k : Nat) : cut_ b p (k : Int) = (b.drop p).take k := by
  unfold cut_
  rw [show ((p : Int) + (k : Int)).toNat = p + k by omega, Int.toNat_natCast, List.drop_take]
  congr 1
  omega
theorem goE_ok {s : Bs} : ∀ (d p : Nat) (acc : List Sub), s.length < p + d → (goE s d p acc).2.2 = 0 → (goE s d p acc).2.1 = 0 ∧ ∃ l, (goE s d p acc).1 = acc ++ l ∧ AllE l ∧ encS l = s.drop p ∧ 2 * l.length + p ≤ s.length + p
  | 0, p, acc, hd, h => ⟨rfl, [], by simp [goE], (fun y hy => by cases hy), by rw [List.drop_eq_nil_of_le (by omega)]; rfl, by simp⟩
  | d + 1, p, acc, hd, h => by
    unfold goE at h ⊢
    by_cases h1 : p < s.length
    · rw [if_pos h1] at h ⊢
      by_cases h2 : (s.length : Int) < p + 2 + bt s (p + 1)
      · rw [if_pos h2] at h; cases h
      · rw [if_neg h2] at h ⊢
        have hb := bt_rng s (p + 1)
        have hb0 := bt_rng s p
        obtain ⟨k0, l, k1, k2, k3, k4⟩ := goE_ok d _ _ (by omega) h
        have hcl : (cut_ s (p + 2) (bt s (p + 1))).length = (bt s (p + 1)).toNat := by
          have := cut_length (s := s) (p := (p : Int) + 2) (n := bt s (p + 1)) (by omega) (by omega) (by omega)
          omega
        refine ⟨k0, ⟨bt s p, cut_ s (p + 2) (bt s (p + 1))⟩ :: l, by rw [k1]; simp, fun y hy => ?_, ?_, ?_⟩
        · rcases List.mem_cons.1 hy with rfl | hy
          · exact ⟨hb0.1, by show bt s p ≤ 255; omega, by show (cut_ s (p + 2) (bt s (p + 1))).length ≤ 255; omega⟩
          · exact k2 y hy
        · unfold encS
          rw [k3]
          dsimp only
          rw [hcl]
          have e1 : u8of (bt s p) = s[p] := by
            have : bt s p = (s[p].toNat : Int) := by unfold bt; simp [h1]
            rw [this, u8of_nat]
          have hp1 : p + 1 < s.length := by omega
          have e2 : u8of (((bt s (p + 1)).toNat : Nat) : Int) = s[p + 1] := by
            have : bt s (p + 1) = (s[p + 1].toNat : Int) := by unfold bt; simp [hp1]
            rw [this, Int.toNat_natCast, u8of_nat]
          have e3 : cut_ s ((p : Int) + 2) (bt s (p + 1)) = (s.drop (p + 2)).take (bt s (p + 1)).toNat := by
            have := cut_dropN s (p + 2) (bt s (p + 1)).toNat
            rw [show ((p + 2 : Nat) : Int) = (p : Int) + 2 by omega, show (((bt s (p + 1)).toNat : Nat) : Int) = bt s (p + 1) by omega] at this
            exact this
          rw [e1, e2, e3, List.drop_eq_getElem_cons h1, List.drop_eq_getElem_cons hp1, show p + 1 + 1 = p + 2 by omega, show s.drop (p + 2 + (bt s (p + 1)).toNat) = (s.drop (p + 2)).drop (bt s (p + 1)).toNat by rw [List.drop_drop], List.take_append_drop]
        · have := congrArg List.length k3
          simp only [List.length_cons]
          have e := encS_length l
          have hlen : ∀ l : List Sub, 2 * (l.length : Int) ≤ sumN l := fun l => by
            induction l with
            | nil => simp [sumN]
            | cons y l ih => simp only [sumN, List.length_cons]; omega
          have := hlen l
          rw [List.length_drop] at *
          omega
    · rw [if_neg h1] at h ⊢
      exact ⟨rfl, [], by simp, (fun y hy => by cases hy), by rw [List.drop_eq_nil_of_le (by omega)]; rfl, by simp⟩
theorem getE_ok {s : Bs} (h : (getE s).2.2 = 0) : (getE s).2.1 = 0 ∧ AllE (getE s).1 ∧ encS (getE s).1 = s ∧ 2 * (getE s).1.length ≤ s.length := by
  obtain ⟨k0, l, k1, k2, k3, k4⟩ := goE_ok (s := s) (s.length + 1) 0 [] (by omega) h
  rw [List.nil_append] at k1
  unfold getE
  rw [k1]
  exact ⟨k0, k2, by rw [k3]; rfl, by omega⟩
theorem goE_back : ∀ (l : List Sub) (d p : Nat) (s : Bs) (acc : List Sub), AllE l → s.drop p = encS l → p ≤ s.length → s.length < p + d → goE s d p acc = (acc ++ l, 0, 0)
  | [], d, p, s, acc, hl, hs, hp, hd => by
    have := congrArg List.length hs
    rw [List.length_drop] at this
    unfold encS at this
    simp at this
    obtain ⟨d, rfl⟩ : ∃ k, d = k + 1 := ⟨d - 1, by omega⟩
    unfold goE
    rw [if_neg (by omega), List.append_nil]
  | y :: l, d, p, s, acc, hl, hs, hp, hd => by
    obtain ⟨d, rfl⟩ : ∃ k, d = k + 1 := ⟨d - 1, by omega⟩
    have hy := hl y (List.mem_cons_self ..)
    have hlen := congrArg List.length hs
    rw [List.length_drop] at hlen
    unfold encS at hs hlen
    simp only [List.length_cons, List.length_append] at hlen
    have g0 : s[p]? = some (u8of y.type_) := by
      have : (s.drop p)[0]? = some (u8of y.type_) := by rw [hs]; rfl
      rwa [List.getElem?_drop] at this
    have g1 : s[p + 1]? = some (u8of (y.data.length : Int)) := by
      have : (s.drop p)[1]? = some (u8of (y.data.length : Int)) := by rw [hs]; rfl
      rwa [List.getElem?_drop] at this
    have b0 : bt s p = y.type_ := by
      unfold bt; rw [g0]; show ((u8of y.type_).toNat : Int) = _; rw [u8of_int]; omega
    have b1 : bt s (p + 1) = y.data.length := by
      unfold bt; rw [g1]; show ((u8of (y.data.length : Int)).toNat : Int) = _; rw [u8of_int]; omega
    have hd2 : s.drop (p + 2) = y.data ++ encS l := by
      rw [← List.drop_drop, hs]; rfl
    have hc : cut_ s ((p : Int) + 2) (y.data.length : Int) = y.data := by
      have := cut_dropN s (p + 2) y.data.length
      rw [show ((p + 2 : Nat) : Int) = (p : Int) + 2 by omega] at this
      rw [this, hd2, List.take_left]
    unfold goE
    rw [b0, b1, if_pos (by omega), if_neg (by omega), hc, Int.toNat_natCast]
    have := goE_back l d (p + 2 + y.data.length) s (acc ++ [⟨y.type_, y.data⟩]) (fun z hz => hl z (List.mem_cons_of_mem _ hz)) (by rw [← List.drop_drop, hd2, List.drop_left]) (by omega) (by omega)
    rw [this]
    simp
theorem getE_back {l : List Sub} (h : AllE l) : getE (encS l) = (l, 0, 0) := by
  have := goE_back l ((encS l).length + 1) 0 (encS l) [] h rfl (by omega) (by omega)
  rw [List.nil_append] at this
  exact this
end Go.VP
set_option linter.unusedVariables false
set_option linter.unusedSimpArgs false
set_option maxRecDepth 100000
namespace Go.VP
open Go Go.VI
def z16 : Bs := [0, 0, 0, 0, 0, 0, 0, 0, 0, 0, 0, 0, 0, 0, 0, 0]
theorem zeros16 : g_octet_Zeros (16, ()) = some ((z16, ()), ()) := by
  rw [g_octet_Zeros_eq, if_pos (by unfold roomI; decide)]; rfl
def preB (a : Bs) (n : Int) : Bool := decide (0 ≤ n ∧ n ≤ 128) && cleanB a n
theorem pright16_is {a : Bs} {n : Int} (h : a.length = 16) (hn : IntKind.has .i64 n) : g_prefix_Right (a, n, ()) = some ((preB a n, ()), ()) := by
  have h8 : IntKind.wrap .i64 (8 * (a.length : Int)) = 128 := by rw [h]; rfl
  rw [g_prefix_Right_eq, h8]
  unfold preB
  refine bq_step (fun q => by omega) (fun _ => ?_)
  refine bq_step (fun _ => ?_) (fun q => by omega)
  refine dq_step' (fun h0 => ?_) (fun h0 => ?_)
  · refine dq_step' (fun h1 => ?_) (fun h1 => ?_)
    · rw [clean_is (by omega) hn, Option.bind_some, decide_eq_true ⟨h0, h1⟩, Bool.true_and]
    · rw [decide_eq_false (fun q => h1 q.2), Bool.false_and]
  · rw [decide_eq_false (fun q => h0 q.1), Bool.false_and]
structure NgR (m : Msg) : Prop where
  kind : m.kind = 2
  bare : bareB m = true
  cmd : m.cmd = 1 ∨ m.cmd = 2
  tag : 0 ≤ m.tag ∧ m.tag < 65536
  metric : 1 ≤ m.metric ∧ m.metric ≤ 16
  len : m.prefix_.length = 16
  pre : preB m.prefix_ m.plen = true
  next : m.next = z16 ∨ linkB m.next = true
open Classical in
noncomputable def ngB (m : Msg) : Bool := decide (NgR m)
theorem ngR_iff {m : Msg} : ngB m = true ↔ NgR m := by simp [ngB]
theorem ngB_no {m : Msg} (h : ¬ NgR m) : ngB m = false := by simp [ngB, h]
theorem NgR.next16 {m : Msg} (h : NgR m) : m.next.length = 16 := by
  rcases h.next with e | e
  · rw [e]; rfl
  · exact (linkB_len e).1
theorem NgR.plen {m : Msg} (h : NgR m) : 0 ≤ m.plen ∧ m.plen ≤ 128 := by
  have := h.pre; unfold preB at this; simp at this; exact this.1
structure GoodG (m : Msg) : Prop where
  tag : IntKind.has .i64 m.tag
  plen : IntKind.has .i64 m.plen
  cmd : IntKind.has .i64 m.cmd
  list : m.list.length ≤ 1000000000
  subs : m.subs.length ≤ 1000000000
theorem link_or {m : Msg} {r : Option ((Bool × Unit) × Unit)} (h : r = some ((linkB m.next, ()), ())) (hk : NgR m ↔ (m.next = z16 ∨ linkB m.next = true)) : (if (m.next == z16) = true then (some ((true, ()), ()) : Option ((Bool × Unit) × Unit)) else r.bind fun r5 => some ((r5.1.1, ()), ())) = some ((ngB m, ()), ()) := by
  refine be_step (fun q => by rw [ngR_iff.2 (hk.2 (.inl q))]) (fun q => ?_)
  rw [h, Option.bind_some]
  cases hl : linkB m.next with
  | true => rw [ngR_iff.2 (hk.2 (.inr hl))]
  | false => rw [ngB_no (fun x => by rcases hk.1 x with e | e; exact q e; rw [hl] at e; cases e)]
theorem ngright_is {m : Msg} (g : GoodG m) : g_ripng_Right (m, ()) = some ((ngB m, ()), ()) := by
  rw [g_ripng_Right_eq]
  have no : ¬ NgR m → (some ((false, ()), ()) : Option ((Bool × Unit) × Unit)) = some ((ngB m, ()), ()) := fun h => by rw [ngB_no h]
  have tail : (m.kind = 2) → bareB m = true → (m.cmd = 1 ∨ m.cmd = 2) → ((g_octet_Fits (m.tag, 2, ())).bind fun r6 => (if (!r6.1.1) = true then some ((false, ()), ()) else (if (decide (m.metric < 1)) = true then some ((false, ()), ()) else (if (decide (16 < m.metric)) = true then some ((false, ()), ()) else (if ((m.prefix_.length : Int) != 16) = true then some ((false, ()), ()) else ((g_prefix_Right (m.prefix_, m.plen, ())).bind fun r7 => (if (!r7.1.1) = true then some ((false, ()), ()) else ((g_octet_Zeros (16, ())).bind fun r8 => (if (m.next == r8.1.1) = true then some ((true, ()), ()) else ((g_addr_Link (m.next, ())).bind fun r9 => some ((r9.1.1, ()), ())))))))))))= (some ((ngB m, ()), ()) : Option ((Bool × Unit) × Unit)) := by
    intro hk hb hc
    rw [show g_octet_Fits (m.tag, 2, ()) = some ((fitsB m.tag 2, ()), ()) from fits_is (k := 2) g.tag (by omega) (by omega), Option.bind_some]
    dsimp only
    cases hf : fitsB m.tag 2 with
    | false => rw [ifnf]; exact no (fun h => by rw [fitsB2.2 h.tag] at hf; cases hf)
    | true =>
      rw [ifnt]
      refine dq_step' (fun q => no (fun h => by have := h.metric; omega)) (fun h1 => ?_)
      refine dq_step' (fun q => no (fun h => by have := h.metric; omega)) (fun h2 => ?_)
      refine ne_step (fun q => no (fun h => by have := h.len; omega)) (fun h3 => ?_)
      rw [pright16_is (by omega) g.plen, Option.bind_some]
      dsimp only
      cases hp : preB m.prefix_ m.plen with
      | false => rw [ifnf]; exact no (fun h => by rw [h.pre] at hp; cases hp)
      | true =>
        rw [ifnt, zeros16, Option.bind_some]
        exact link_or (link_is _) ⟨fun h => h.next, fun h => ⟨hk, hb, hc, fitsB2.1 hf, by omega, by omega, hp, h⟩⟩
  refine ne_step (fun q => no (fun h => q h.kind)) (fun hk => ?_)
  rw [bare_is, Option.bind_some]
  dsimp only
  cases hb : bareB m with
  | false => rw [ifnf]; exact no (fun h => by rw [h.bare] at hb; cases hb)
  | true =>
    rw [ifnt]
    refine ne_step (fun q1 => ?_) (fun q1 => tail hk hb (.inl q1))
    exact ne_step (fun q2 => no (fun h => by have := h.cmd; omega)) (fun q2 => tail hk hb (.inr q2))
abbrev EntN := S_api_Entry
def entN (s : Bs) : EntN := ⟨bt s 18, num (cut_ s 16 2), s.take 16, [], [], bt s 19⟩
def entG (a : Bs) (t f m : Int) : Bs := a ++ (be 2 t ++ [u8of f, u8of m])
theorem entG_len {a : Bs} (h : a.length = 16) (t f m : Int) : (entG a t f m).length = 20 := by unfold entG; simp [be_length]; omega
theorem rteput_is {a : Bs} {t f m : Int} (ha : a.length = 16) (ht : 0 ≤ t ∧ t < 65536) (hf : 0 ≤ f ∧ f < 256) (hm : 0 ≤ m ∧ m < 256) : g_rte_Put (⟨f, t, a, [], [], m⟩, ()) = some ((entG a t f m, true, ()), ()) := by
  have f1 : ∀ {n : Int}, 0 ≤ n ∧ n < 256 → fitsB n 1 = true := fun h => by unfold fitsB; rw [decide_eq_true_eq]; omega
  rw [g_rte_Put_eq]
  dsimp only
  refine ne_step (fun q => by omega) (fun _ => ?_)
  rw [if_pos (maxB_of (by simp)), if_neg (by simp), show g_octet_Fits (t, 2, ()) = some ((fitsB t 2, ()), ()) from fits_is (k := 2) (has64.2 (by omega)) (by omega) (by omega), Option.bind_some, fitsB2.2 ht]
  dsimp only
  rw [ifnt, show g_octet_Fits (f, 1, ()) = some ((fitsB f 1, ()), ()) from fits_is (k := 1) (has64.2 (by omega)) (by omega) (by omega), Option.bind_some, f1 hf]
  dsimp only
  rw [ifnt, show g_octet_Fits (m, 1, ()) = some ((fitsB m 1, ()), ()) from fits_is (k := 1) (has64.2 (by omega)) (by omega) (by omega), Option.bind_some, f1 hm]
  dsimp only
  rw [ifnt, if_pos (maxB_of (by simp; omega)), u8w hf.1, u8w hm.1]
  unfold entG
  rw [← be2 ht]; rfl
end Go.VP
set_option linter.unusedVariables false
set_option linter.unusedSimpArgs false
set_option maxRecDepth 100000
namespace Go.VP
open Go Go.VI
def headG (b : Bs) : Int × Int :=
  if 65535 < b.length then (65535, 10) else if b.length < 4 then (b.length, 2) else if ¬ (bt b 0 = 1 ∨ bt b 0 = 2) then (0, 4) else if ¬ bt b 1 = 1 then (1, 4)
  else if ¬ (bt b 2 = 0 ∧ bt b 3 = 0) then (2, 5) else if ((b.length : Int) - 4) % 20 ≠ 0 then (b.length, 2) else (0, 0)
theorem headG_ok {b : Bs} (h : (headG b).2 = 0) : 4 ≤ b.length ∧ b.length ≤ 65535 ∧ (bt b 0 = 1 ∨ bt b 0 = 2) ∧ bt b 1 = 1 ∧ bt b 2 = 0 ∧ bt b 3 = 0 ∧ ((b.length : Int) - 4) % 20 = 0 := by
  unfold headG at h
  repeat (split at h; · simp at h)
  rename_i h1 h2 h3 h4 h5 h6
  exact ⟨by omega, by omega, by omega, by omega, by omega, by omega, by omega⟩
def errN (e : EntN) : Int := if e.metric = 255 then (if e.tag = 0 ∧ e.family = 0 then 0 else 5) else if ¬ preB e.addr e.family = true then 7 else if e.metric < 1 ∨ 16 < e.metric then 6 else 0
def nextN (nx : Bs) (e : EntN) : Bs := if e.metric = 255 then (if linkB e.addr = true then e.addr else z16) else nx
def msgN (c : Int) (nx : Bs) (e : EntN) : Msg := S_api_Msg.mk 2 c 0 [] 0 0 e.addr e.family e.tag nx e.metric [] 0 0 0 0 0 0 0 [] [] [] 0 [] []
def outN (c : Int) (nx : Bs) (e : EntN) : List Msg := if e.metric = 255 then [] else [msgN c nx e]
structure EntKN (e : EntN) : Prop where
  addr : e.addr.length = 16
  tag : 0 ≤ e.tag ∧ e.tag < 65536
  fam : 0 ≤ e.family ∧ e.family < 256
  met : 0 ≤ e.metric ∧ e.metric < 256
theorem entN_ok {s : Bs} (h : s.length = 20) : EntKN (entN s) := by
  have h1 := bt_rng s 18
  have h2 := bt_rng s 19
  have h3 := num_rng (cut_ s 16 2)
  have hl : (cut_ s 16 2).length = 2 := by have := cut_length (s := s) (p := 16) (n := 2) (by omega) (by omega) (by omega); omega
  rw [hl] at h3
  exact ⟨by show (s.take 16).length = 16; rw [List.length_take]; omega, by show 0 ≤ num (cut_ s 16 2) ∧ num (cut_ s 16 2) < 65536; exact ⟨h3.1, by have := h3.2; omega⟩, h1, h2⟩
def goN (c : Int) (b : Bs) : Nat → Nat → Bs → List Msg → List Msg × Int × Int
  | 0, _, _, acc => if acc = [] then ([], b.length, 8) else (acc, 0, 0)
  | k + 1, p, nx, acc => if errN (entN (cut_ b p 20)) ≠ 0 then ([], (p : Int), errN (entN (cut_ b p 20))) else goN c b k (p + 20) (nextN nx (entN (cut_ b p 20))) (acc ++ outN c nx (entN (cut_ b p 20)))
noncomputable def parseN (b : Bs) : List Msg × Int × Int := if (headG b).2 ≠ 0 then ([], headG b) else goN (bt b 0) b ((b.length - 4) / 20) 4 z16 []
end Go.VP
