/- An Update that may be, and what is laid of it: it comes back. -/
import Derived.Test.YtabekdfijifnfaaQPBase
import Derived.Test.YtabekdfijifnfaaQPCur
import Derived.Test.YtabekdfijifnfaaQPOct
import Derived.Test.YtabekdfijifnfaaQPTlv
import Derived.Test.YtabekdfijifnfaaQPSub
import Derived.Test.YtabekdfijifnfaaQPMsg
import Derived.Test.YtabekdfijifnfaaQPAddr
import Derived.Test.YtabekdfijifnfaaQPBits
import Derived.Test.YtabekdfijifnfaaQPField
import Derived.Test.YtabekdfijifnfaaQPFieldG
import Derived.Test.YtabekdfijifnfaaQPFieldB
import Derived.Test.YtabekdfijifnfaaQPRoute
import Derived.Test.YtabekdfijifnfaaQPRouteG
import Derived.Test.YtabekdfijifnfaaQPTake
import Derived.Test.YtabekdfijifnfaaQPRouteB
import Derived.Test.YtabekdfijifnfaaQPCtx
import Derived.Test.YtabekdfijifnfaaQPCtxU
import Derived.Test.YtabekdfijifnfaaQPCtxV
import Derived.Test.YtabekdfijifnfaaQPCtxW
import Derived.Test.YtabekdfijifnfaaQPCtxX
import Derived.Test.YtabekdfijifnfaaQPIntake
import Derived.Test.YtabekdfijifnfaaQPFold
import Derived.Test.YtabekdfijifnfaaQPParts
set_option linter.unusedVariables false
set_option linter.unusedSimpArgs false
set_option maxRecDepth 100000
namespace Go.VP
open Go Go.VI
structure UpdR (m : Msg) : Prop where
  kind : m.kind = 11
  bare : bareB m = true
  subs : rightB m.subs = true
  inn : inB m.ae m.prefix_ m.plen = true
  iv : 0 ≤ m.interval ∧ m.interval < 65536
  sq : 0 ≤ m.seq ∧ m.seq < 65536
  me : 0 ≤ m.metric ∧ m.metric < 65536
  far : m.metric = 65535 → m.id = [] ∧ m.next = []
  near : m.metric ≠ 65535 → 0 < m.ae ∧ m.id.length = 8 ∧ (m.next = [] ∨ famF m.next = famE m.ae)
def tailB (m : Msg) : Bool := if m.metric = 65535 then (m.id == [] && m.next == []) else decide (0 < m.ae) && (decide (m.id.length = 8) && (m.next == [] || decide (famF m.next = famE m.ae)))
noncomputable def updB (m : Msg) : Bool := decide (m.kind = 11) && (bareB m && (rightB m.subs && (inB m.ae m.prefix_ m.plen && (fitsB m.interval 2 && (fitsB m.seq 2 && (fitsB m.metric 2 && tailB m))))))
theorem updR_iff {m : Msg} : updB m = true ↔ UpdR m := by
  unfold updB tailB
  simp only [Bool.and_eq_true, decide_eq_true_eq, fitsB2]
  constructor
  · rintro ⟨a, b, c, d, e, f, g, h⟩
    refine ⟨a, b, c, d, e, f, g, fun hm => ?_, fun hm => ?_⟩
    · rw [if_pos hm] at h; simpa using h
    · rw [if_neg hm] at h; simpa using h
  · intro h
    refine ⟨h.1, h.2, h.3, h.4, h.5, h.6, h.7, ?_⟩
    by_cases hm : m.metric = 65535
    · rw [if_pos hm]; simpa using h.far hm
    · rw [if_neg hm]; simpa using h.near hm
def mk12 (ae : Int) (a : Bs) (plen : Int) : Msg := ⟨12, 0, 0, [], 0, ae, a, plen, 0, [], 0, [], 0, 0, 0, 0, 0, 0, 0, [], [], [], 0, [], []⟩
theorem UpdR.asR {m : Msg} (h : UpdR m) : RouteR (mk12 m.ae m.prefix_ m.plen) := by
  obtain ⟨a, b, c, d, e⟩ := inB_iff.1 h.inn
  have hb : bareOf (mk12 m.ae m.prefix_ m.plen) = some (mk12 m.ae m.prefix_ m.plen) := rfl
  exact ⟨by rw [bareB, hb]; exact eqB_refl _, rfl, a, b, c, d, e, rfl⟩
def leadN : Bs → Bs → Nat
  | a :: x, b :: y => if a = b then leadN x y + 1 else 0
  | _, _ => 0
theorem leadN_le : ∀ x y : Bs, leadN x y ≤ x.length ∧ leadN x y ≤ y.length
  | [], y => by simp [leadN]
  | a :: x, [] => by simp [leadN]
  | a :: x, b :: y => by
    have := leadN_le x y
    rw [leadN]; split <;> simp <;> omega
theorem leadN_take : ∀ x y : Bs, x.take (leadN x y) = y.take (leadN x y)
  | [], y => by simp [leadN]
  | a :: x, [] => by simp [leadN]
  | a :: x, b :: y => by
    rw [leadN]; split
    · rename_i h; rw [List.take_succ_cons, List.take_succ_cons, leadN_take x y, h]
    · rfl
def flagU (ae : Int) : Int := if ae = 0 then 0 else 128
def updD (m : Msg) (n : Nat) : Bs := [u8of m.ae, u8of (flagU m.ae), u8of m.plen, u8of n] ++ (be 2 m.interval ++ (be 2 m.seq ++ (be 2 m.metric ++ ((bytesP m).drop n ++ encS m.subs))))
theorem UpdR.pre {m : Msg} (h : UpdR m) : (0 ≤ m.ae ∧ m.ae < 4) ∧ (0 ≤ m.plen ∧ m.plen ≤ 128) ∧ ((bytesP m).length : Int) = leastF m.plen - baseA m.ae ∧ (bytesP m).length ≤ 16 ∧ (0 ≤ baseA m.ae ∧ baseA m.ae ≤ 8) ∧ m.prefix_.length ≤ 16 := by
  have r := h.asR
  have hc : ((bytesP m).length : Int) = leastF m.plen - baseA m.ae := r.cut.2
  obtain ⟨l1, l2, l3, l4, l5, l6⟩ := least_base r.ae r.plen
  have hl : (m.prefix_.length : Int) = szA m.ae := r.len
  have hb := baseA_rng m.ae
  dsimp only [mk12] at l1 l2 l3 l4 l5 l6
  exact ⟨r.ae, ⟨l4, l5⟩, hc, by omega, hb, by omega⟩
theorem updD_len {m : Msg} (h : UpdR m) (n : Nat) : (updD m n).length = 10 + ((bytesP m).length - n) + (encS m.subs).length := by
  unfold updD
  simp [be_length]; omega
theorem takeG_upd {m : Msg} (h : UpdR m) {n : Nat} (hn : n ≤ (bytesP m).length) : takeG (updD m n) = (⟨m.ae, flagU m.ae, m.plen, n, m.interval, m.seq, m.metric, 1, (bytesP m).drop n, m.subs⟩, true, 0) := by
  obtain ⟨hae, hpl, hbl, h16, hbs, _⟩ := h.pre
  obtain ⟨hr, hs⟩ := rightB_split h.subs
  have hg := getS_encS hr hs
  have q1 : greatB m.ae m.plen = false := (rest_eq h.asR).1
  have hlen := updD_len h n
  have uA : ((u8of m.ae).toNat : Int) = m.ae := by rw [u8of_int, if_pos hae.1]; omega
  have uF : ((u8of (flagU m.ae)).toNat : Int) = flagU m.ae := by unfold flagU; split <;> rfl
  have uP : ((u8of m.plen).toNat : Int) = m.plen := by rw [u8of_int, if_pos hpl.1]; omega
  have uN : ((u8of (n : Int)).toNat : Int) = n := by rw [u8of_int, if_pos (by omega)]; omega
  generalize hD : updD m n = D at *
  have e : D = [u8of m.ae, u8of (flagU m.ae), u8of m.plen, u8of n] ++ (be 2 m.interval ++ (be 2 m.seq ++ (be 2 m.metric ++ ((bytesP m).drop n ++ encS m.subs)))) := by rw [← hD]; rfl
  have t0 : bt D 0 = m.ae := by rw [e]; exact uA
  have t1 : bt D 1 = flagU m.ae := by rw [e]; exact uF
  have t2 : bt D 2 = m.plen := by rw [e]; exact uP
  have t3 : bt D 3 = n := by rw [e]; exact uN
  have c4 : cut_ D 4 2 = be 2 m.interval := by
    rw [e, cutR (k := 4) rfl (by omega) (by omega)]; exact cutL rfl
  have c6 : cut_ D 6 2 = be 2 m.seq := by
    rw [e, cutR (k := 4) rfl (by omega) (by omega), cutR (k := 2) rfl (by omega) (by omega)]; exact cutL rfl
  have c8 : cut_ D 8 2 = be 2 m.metric := by
    rw [e, cutR (k := 4) rfl (by omega) (by omega), cutR (k := 2) rfl (by omega) (by omega), cutR (k := 2) rfl (by omega) (by omega)]; exact cutL rfl
  have hrn : restN m.ae m.plen n = (((bytesP m).drop n).length : Nat) := by unfold restN; rw [List.length_drop]; omega
  have c10 : cut_ D 10 (((bytesP m).drop n).length : Nat) = (bytesP m).drop n := by
    rw [e, cutR (k := 4) rfl (by omega) (by omega), cutR (k := 2) rfl (by omega) (by omega), cutR (k := 2) rfl (by omega) (by omega), cutR (k := 2) rfl (by omega) (by omega)]; exact cutL rfl
  have hp : preF D 10 m.ae m.plen n = ((bytesP m).drop n, 0) := by
    rw [preF_fine q1 (by omega) (by rw [hrn, List.length_drop]; omega), hrn, c10]
  have hdr : D.drop (10 + restN m.ae m.plen n).toNat = encS m.subs := by
    rw [hrn, e, ← List.append_assoc, ← List.append_assoc, ← List.append_assoc, ← List.append_assoc]
    exact List.drop_left' (by simp [be_length]; omega)
  unfold takeG
  rw [if_neg (by omega), t0, if_neg (by omega)]
  dsimp only
  rw [t2, t3, t1, hp, hdr, hg]
  dsimp only
  rw [if_neg (show ¬ (0 : Int) ≠ 0 by decide), if_neg (show ¬ (0 : Int) ≠ 0 by decide), c4, c6, c8, num_be2 h.iv, num_be2 h.sq, num_be2 h.me, if_pos rfl]
def nextC (c : Ctx) (f : Int) : Bs := if f = 0 then c.next_c0 else c.next_c1
def setP (c : Ctx) (ae : Int) (a : Bs) : Ctx := if ae = 0 then c else ⟨c.prefix_c0, (if ae = 1 then a else c.prefix_c1), (if ae = 2 then a else c.prefix_c2), (if ae = 3 then a else c.prefix_c3), c.next_c0, c.next_c1, c.id⟩
theorem setP_id (c : Ctx) (ae : Int) (a : Bs) : (setP c ae a).id = c.id := by unfold setP; split <;> rfl
theorem setP_next (c : Ctx) (ae : Int) (a : Bs) (f : Int) : nextC (setP c ae a) f = nextC c f := by unfold setP; split <;> rfl
theorem bare11 {m : Msg} (hk : m.kind = 11) (hb : bareB m = true) : (⟨11, 0, 0, [], 0, m.ae, m.prefix_, m.plen, 0, m.next, m.metric, m.id, m.seq, 0, m.interval, 0, 0, 0, 0, [], [], [], 0, [], m.subs⟩ : Msg) = m := by
  have hx : bareOf m = some ⟨m.kind, 0, 0, [], 0, m.ae, m.prefix_, m.plen, 0, m.next, m.metric, m.id, m.seq, 0, m.interval, 0, 0, 0, 0, [], [], [], 0, [], m.subs⟩ := by
    unfold bareOf; rw [if_neg (by omega), if_neg (by omega), if_neg (by omega), if_neg (by omega), if_neg (by omega), if_neg (by omega), if_neg (by omega), if_neg (by omega), if_neg (by omega), if_neg (by omega), if_pos hk]
  rw [bareB, hx] at hb
  have := eqB_true.1 hb
  rw [hk] at this
  exact this
theorem updF_upd {c : Ctx} {m : Msg} {n : Nat} (hc : okC c) (h : UpdR m) (hn : n ≤ (bytesP m).length)
    (hk : n ≠ 0 → preC c m.ae ≠ [] ∧ ((preC c m.ae).drop (baseA m.ae).toNat).take n = (bytesP m).take n)
    (hf : m.metric ≠ 65535 → c.id = m.id ∧ nextC c (famE m.ae) = m.next) : updF c (updD m n) = (setP c m.ae m.prefix_, [m], 0) := by
  obtain ⟨hae, hpl, hbl, h16, hbs, _⟩ := h.pre
  have hw : wholeF m.ae (bytesP m) m.plen = m.prefix_ := wholeF_back (m := mk12 m.ae m.prefix_ m.plen) h.asR
  have ht := takeG_upd h hn
  have ha : addrF c (takeG (updD m n)).1 = (m.prefix_, true) := by
    rw [ht]; unfold addrF
    dsimp only
    by_cases h0 : n = 0
    · rw [if_pos (by omega), h0, List.drop_zero, hw]
    · obtain ⟨k1, k2⟩ := hk h0
      have hcut : cut_ (preC c m.ae) (baseA m.ae) (n : Int) = (bytesP m).take n := by
        rw [← k2]; unfold cut_
        rw [List.drop_take, show (baseA m.ae + (n : Int)).toNat - (baseA m.ae).toNat = n by omega]
      rw [if_neg (by omega), if_neg k1, hcut, List.take_append_drop, hw]
  have hfl : flagsF c (takeG (updD m n)).1 m.prefix_ = setP c m.ae m.prefix_ := by
    rw [ht]; unfold flagsF setP flagU
    dsimp only
    by_cases a0 : m.ae = 0
    · rw [if_pos a0, if_pos a0]
    · simp only [if_neg a0]
      rw [if_pos (show (128 : Int) ≤ 128 by decide), if_neg (show ¬ ((128 : Int) / 64 % 2 = 1) by decide)]
  have hto : toldB (setP c m.ae m.prefix_) (takeG (updD m n)).1 = true := by
    rw [ht]; unfold toldB
    dsimp only
    rw [setP_id]
    by_cases hm : m.metric = 65535
    · simp [hm]
    · have hn := h.near hm
      have hi : c.id ≠ [] := by
        rw [(hf hm).1]; intro e; rw [e] at hn; exact absurd hn.2.1 (by decide)
      simp [hi]; omega
  have hu : updM (setP c m.ae m.prefix_) (takeG (updD m n)).1 m.prefix_ = m := by
    rw [ht]; unfold updM
    dsimp only
    have hx := bare11 h.kind h.bare
    by_cases hm : m.metric = 65535
    · obtain ⟨f1, f2⟩ := h.far hm
      rw [if_pos hm, if_pos hm]
      rw [f1, f2] at hx
      exact hx
    · obtain ⟨f1, f2⟩ := hf hm
      rw [if_neg hm, if_neg hm, setP_id, f1]
      have : (if famE m.ae = 0 then (setP c m.ae m.prefix_).next_c0 else (setP c m.ae m.prefix_).next_c1) = m.next := by
        rw [← f2]; exact setP_next c m.ae m.prefix_ (famE m.ae)
      rw [this]
      exact hx
  rw [updF_eq (by rw [ht]) (by rw [ha]), ha, hfl, if_pos hto, hu]
def idD (s : Bs) : Bs := 0 :: 0 :: s
def hopD (a : Bs) : Bs := if linkB a = true then 3 :: 0 :: a.drop 8 else if a.length = 4 then 1 :: 0 :: a else 2 :: 0 :: a
theorem countF_all {d : Bs} {n : Int} (h : (d.length : Int) = n) : countF d n = (true, 0) := by
  unfold countF
  rw [if_neg (by omega), List.drop_eq_nil_of_le (by omega), getS_nil]
theorem idF_back {c : Ctx} {s : Bs} (h : s.length = 8) : idF c (idD s) = (setId c s, 0) := by
  unfold idF idD
  rw [countF_all (by simp [h]), if_pos rfl]
  have : cut_ (0 :: 0 :: s) 2 8 = s := by
    show cut_ ([0, 0] ++ s) 2 8 = s
    rw [cutR (k := 2) rfl (by omega) (by omega)]
    have := cutL (x := s) (y := []) (n := 8) (by omega)
    rwa [List.append_nil] at this
  rw [this]
theorem famF_cases {a : Bs} {f : Int} (hf : famF a = f) (h : f = 0 ∨ f = 1) : (f = 0 ∧ a.length = 4) ∨ (f = 1 ∧ a.length = 16) := by
  unfold famF at hf
  split at hf
  · exact .inl ⟨hf.symm, by assumption⟩
  split at hf
  · exact .inr ⟨hf.symm, by assumption⟩
  · omega
theorem hopF_back {c : Ctx} {a : Bs} {f : Int} (h : (f = 0 ∧ a.length = 4) ∨ (f = 1 ∧ a.length = 16)) : hopF c (hopD a) = (setN c f a, 0) := by
  have ca : ∀ (x y : UInt8) (s : Bs) (n : Int), (s.length : Int) = n → cut_ (x :: y :: s) 2 n = s := fun x y s n hs => by
    show cut_ ([x, y] ++ s) 2 n = s
    rw [cutR (k := 2) rfl (by omega) (by omega)]
    have := cutL (x := s) (y := []) (n := n) hs
    rwa [List.append_nil] at this
  unfold hopD
  by_cases hl : linkB a = true
  · have h16 := linkB_len hl
    have h8 : (a.drop 8).length = 8 := by rw [List.length_drop]; omega
    have b0 : bt (3 :: 0 :: a.drop 8) 0 = 3 := rfl
    have n3 : hopN 3 = 8 := rfl
    have f3 : famE 3 = 1 := rfl
    rw [if_pos hl]
    unfold hopF hopA
    rw [b0, n3, if_neg (by simp; omega), if_neg (by omega), countF_all (by simp [h8]), if_pos rfl, if_pos rfl, ca _ _ _ 8 (by omega), f3]
    have : (longF (a.drop 8)).1 = a := by unfold longF; rw [if_pos h8]; exact link_parts hl
    rw [this]
    rcases h with ⟨rfl, h⟩ | ⟨rfl, h⟩
    · omega
    · rfl
  · rw [if_neg hl]
    rcases h with ⟨rfl, h⟩ | ⟨rfl, h⟩
    · have b0 : bt (1 :: 0 :: a) 0 = 1 := rfl
      have n3 : hopN 1 = 4 := rfl
      have f3 : famE 1 = 0 := rfl
      rw [if_pos h]
      unfold hopF hopA
      rw [b0, n3, if_neg (by simp; omega), if_neg (by omega), countF_all (by simp [h]), if_pos rfl, if_neg (by omega), ca _ _ _ 4 (by omega), f3]
    · have b0 : bt (2 :: 0 :: a) 0 = 2 := rfl
      have n3 : hopN 2 = 16 := rfl
      have f3 : famE 2 = 1 := rfl
      rw [if_neg (by omega)]
      unfold hopF hopA
      rw [b0, n3, if_neg (by simp; omega), if_neg (by omega), countF_all (by simp [h]), if_pos rfl, if_neg (by omega), ca _ _ _ 16 (by omega), f3]
end Go.VP
