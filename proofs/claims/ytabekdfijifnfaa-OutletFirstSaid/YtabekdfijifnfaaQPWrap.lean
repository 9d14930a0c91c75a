/- The datagram of a body: program and document; more of TLVs' bytes. -/
import Derived.Test.YtabekdfijifnfaaQFQ2
import Derived.Test.YtabekdfijifnfaaQFQ5
import Derived.Test.YtabekdfijifnfaaQPBase
import Derived.Test.YtabekdfijifnfaaQPCur
import Derived.Test.YtabekdfijifnfaaQPOct
import Derived.Test.YtabekdfijifnfaaQPTlv
import Derived.Test.YtabekdfijifnfaaQPSub
import Derived.Test.YtabekdfijifnfaaQPMsg
import Derived.Test.YtabekdfijifnfaaQPBody
import Derived.Test.YtabekdfijifnfaaQPAddr
import Derived.Test.YtabekdfijifnfaaQPBits
import Derived.Test.YtabekdfijifnfaaQPField
import Derived.Test.YtabekdfijifnfaaQPFieldG
import Derived.Test.YtabekdfijifnfaaQPFieldB
import Derived.Test.YtabekdfijifnfaaQPRoute
import Derived.Test.YtabekdfijifnfaaQPRouteG
import Derived.Test.YtabekdfijifnfaaQPTake
import Derived.Test.YtabekdfijifnfaaQPRouteB
import Derived.Test.YtabekdfijifnfaaQPCtx
import Derived.Test.YtabekdfijifnfaaQPCtxU
import Derived.Test.YtabekdfijifnfaaQPCtxV
import Derived.Test.YtabekdfijifnfaaQPCtxW
import Derived.Test.YtabekdfijifnfaaQPCtxX
import Derived.Test.YtabekdfijifnfaaQPIntake
import Derived.Test.YtabekdfijifnfaaQPFold
import Derived.Test.YtabekdfijifnfaaQPParts
set_option linter.unusedVariables false
set_option linter.unusedSimpArgs false
set_option maxRecDepth 100000
namespace Go.VP
open Go Go.VI
theorem ishr8w {x : Int} (h : 0 ≤ x) : ishr .i64 x 8 = x / 256 := by
  unfold ishr
  rw [show (2 : Int) ^ (min (8 : Int).toNat IntKind.i64.bits) = 256 by decide]
  exact Int.fdiv_eq_ediv_of_nonneg _ (by decide)
theorem wput_loop {c : Nat} : ∀ (i m : Nat) (x : Int) (acc : Bs), i ≤ acc.length → acc.length ≤ 100 → i < m → 0 ≤ x → L_octet_Put_0 c m x ((i : Int) - 1) acc = some ((be i x ++ acc.drop i, true, ()), ())
  | 0, m, x, acc, h1, h2, hm, hx => by
    obtain ⟨m, rfl⟩ : ∃ k, m = k + 1 := ⟨m - 1, by omega⟩
    rw [L_octet_Put_0_eq, ifn (by omega)]; simp [be]
  | i + 1, m, x, acc, h1, h2, hm, hx => by
    obtain ⟨m, rfl⟩ : ∃ k, m = k + 1 := ⟨m - 1, by omega⟩
    have e : (((i + 1 : Nat) : Int) - 1) = (i : Int) := by omega
    rw [L_octet_Put_0_eq, e, ifd (by omega), if_pos (by omega), Int.toNat_natCast, if_pos (by omega), w64 (by omega) (by omega), ishr8w hx, wput_loop i m (x / 256) _ (by simp; omega) (by simp; omega) (by omega) (by omega), wu8, be]
    have : (acc.set i (u8of (x % 256))).drop i = u8of (x % 256) :: acc.drop (i + 1) := by
      rw [List.drop_eq_getElem_cons (by simp; omega), List.getElem_set_self, List.drop_set_of_lt (by omega)]
    rw [this]; simp
theorem wput_is {n : Int} {k : Nat} (hn : IntKind.has .i64 n) (h1 : 1 ≤ k) (h7 : k ≤ 7) : g_octet_Put (n, (k : Int), ()) = some (((oput n k).1, (oput n k).2, ()), ()) := by
  show h_octet_Put fuel (n, (k : Int), ()) = _
  rw [h_octet_Put_eq, fits_is hn h1 h7, Option.bind_some]
  unfold oput
  cases hf : fitsB n k with
  | false => rfl
  | true =>
    have h0 : 0 ≤ n := by unfold fitsB at hf; rw [decide_eq_true_eq] at hf; exact hf.1
    have hr : (k : Int) ≤ roomI := by unfold roomI; omega
    dsimp only
    rw [ifnt, if_pos ⟨by omega, hr⟩, w64 (by omega) (by omega), Int.toNat_natCast, wput_loop k fuel n _ (by simp) (by simp; omega) (fuel_ge (by omega)) h0]
    simp
theorem wput2 {n : Int} (hn : IntKind.has .i64 n) : g_octet_Put (n, 2, ()) = some (((oput n 2).1, (oput n 2).2, ()), ()) := wput_is (k := 2) hn (by omega) (by omega)
theorem rofw {n : Int} (hn : IntKind.has .i64 n) : g_ref02_Of (n, 2, ()) = some (((oput n 2).1, ()), ()) := rof_is (k := 2) hn (by omega) (by omega)
theorem oput_len2 {s : Bs} (h : s.length ≤ 65531) : oput (s.length : Int) 2 = (be 2 s.length, true) := by
  unfold oput; rw [if_pos (by unfold fitsB; rw [decide_eq_true_eq]; omega)]
theorem wrapF_long {s : Bs} (h : 65531 < (s.length : Int)) : wrapF s = ([], false) := by unfold wrapF; rw [if_pos h]
theorem wrapF_fit {s : Bs} (h : ¬ 65531 < (s.length : Int)) : wrapF s = (42 :: 2 :: (be 2 s.length ++ s), true) := by unfold wrapF; rw [if_neg h]
theorem wrap_is {s : Bs} (h : s.length ≤ 100000000) : g_frame_Wrap (s, ()) = some (((wrapF s).1, (wrapF s).2, ()), ()) := by
  rw [g_frame_Wrap_eq, wput2 (has64.2 (by omega)), Option.bind_some]
  by_cases hs : 65531 < (s.length : Int)
  · rw [wrapF_long hs]
    cases hb : (oput (s.length : Int) 2).2 with
    | false => rfl
    | true => dsimp only; rw [ifnt, ifd hs]
  · have h2 : (be 2 (s.length : Int)).length = 2 := be_length 2 _
    rw [wrapF_fit hs, oput_len2 (by omega)]
    generalize be 2 (s.length : Int) = B at *
    dsimp only
    rw [ifnt, ifn hs, if_pos (maxB_of (by omega)), if_pos (maxB_of (by simp; omega))]; rfl
theorem rwrap_is {s : Bs} (h : s.length ≤ 100000000) : g_ref18_Wrap (s, ()) = some (((wrapF s).1, (wrapF s).2, ()), ()) := by
  rw [g_ref18_Wrap_eq]
  by_cases hs : 65531 < (s.length : Int)
  · rw [wrapF_long hs, ifd hs]
  · have h2 : (be 2 (s.length : Int)).length = 2 := be_length 2 _
    rw [wrapF_fit hs, ifn hs, rofw (has64.2 (by omega)), Option.bind_some, oput_len2 (by omega)]
    generalize be 2 (s.length : Int) = B at *
    dsimp only
    rw [if_pos (maxB_of (by omega)), if_pos (maxB_of (by simp; omega))]; rfl
def elen : List Tlv → Nat
  | [] => 0
  | t :: r => (if t.type_ = 0 then 1 else 2 + t.data.length) + elen r
theorem spl_more (s : Bs) : ∀ (p q : Int) (l : List Tlv), spl p s = .ok l → elen l = s.length ∧ ∃ k, spl q s = .ok k ∧ sigT k = sigT l := by
  induction h : s.length using Nat.strongRecOn generalizing s with
  | ind n ih =>
    intro p q l hs
    subst h
    match s, hs with
    | [], hs => rw [spl_nil] at hs; cases hs; exact ⟨rfl, [], spl_nil q, rfl⟩
    | t :: r, hs =>
      by_cases ht : t = 0
      · subst ht
        rw [spl_zero] at hs
        cases hr : spl (p + 1) r with
        | error q => rw [hr] at hs; cases hs
        | ok lr =>
          rw [hr] at hs; cases hs
          obtain ⟨i1, k, i2, i3⟩ := ih r.length (by simp) r rfl _ (q + 1) lr hr
          refine ⟨by rw [elen, if_pos rfl, i1, List.length_cons]; omega, ⟨0, q, []⟩ :: k, by rw [spl_zero, i2]; rfl, by rw [sigT_pad (.inl rfl), sigT_pad (.inl rfl), i3]⟩
      · match r, hs with
        | [], hs => rw [spl_one ht] at hs; cases hs
        | n :: d, hs =>
          by_cases hn : d.length < n.toNat
          · rw [spl_bad ht hn] at hs; cases hs
          · rw [spl_all ht (by omega)] at hs
            cases hr : spl (p + 2 + n.toNat) (d.drop n.toNat) with
            | error q => rw [hr] at hs; cases hs
            | ok lr =>
              rw [hr] at hs; cases hs
              obtain ⟨i1, k, i2, i3⟩ := ih (d.drop n.toNat).length (by simp; omega) (d.drop n.toNat) rfl _ (q + 2 + n.toNat) lr hr
              have t0 : ¬ ((t.toNat : Nat) : Int) = 0 := fun e => ht (UInt8.toNat.inj (by show t.toNat = 0; omega))
              refine ⟨?_, ⟨t.toNat, q, d.take n.toNat⟩ :: k, by rw [spl_all ht (by omega), i2]; rfl, ?_⟩
              · rw [elen]
                show (if ((t.toNat : Nat) : Int) = 0 then 1 else 2 + (d.take n.toNat).length) + elen lr = _
                rw [if_neg t0, i1, List.length_take, List.length_drop, List.length_cons, List.length_cons]; omega
              · by_cases t1 : ((t.toNat : Nat) : Int) = 1
                · rw [sigT_pad (.inr t1), sigT_pad (.inr t1), i3]
                · rw [sigT_real (by show ¬ (((t.toNat : Nat) : Int) = 0 ∨ ((t.toNat : Nat) : Int) = 1); omega), sigT_real (by show ¬ (((t.toNat : Nat) : Int) = 0 ∨ ((t.toNat : Nat) : Int) = 1); omega), i3]
end Go.VP
