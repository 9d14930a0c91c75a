/- How many bytes two rows have in common: program and document. -/
import Derived.Test.YtabekdfijifnfaaQFQ1
import Derived.Test.YtabekdfijifnfaaQFQ3
import Derived.Test.YtabekdfijifnfaaQPBase
import Derived.Test.YtabekdfijifnfaaQPCur
import Derived.Test.YtabekdfijifnfaaQPOct
import Derived.Test.YtabekdfijifnfaaQPTlv
import Derived.Test.YtabekdfijifnfaaQPSub
import Derived.Test.YtabekdfijifnfaaQPMsg
import Derived.Test.YtabekdfijifnfaaQPAddr
import Derived.Test.YtabekdfijifnfaaQPBits
import Derived.Test.YtabekdfijifnfaaQPField
import Derived.Test.YtabekdfijifnfaaQPFieldG
import Derived.Test.YtabekdfijifnfaaQPFieldB
import Derived.Test.YtabekdfijifnfaaQPRoute
import Derived.Test.YtabekdfijifnfaaQPRouteG
import Derived.Test.YtabekdfijifnfaaQPTake
import Derived.Test.YtabekdfijifnfaaQPRouteB
import Derived.Test.YtabekdfijifnfaaQPCtx
import Derived.Test.YtabekdfijifnfaaQPCtxU
import Derived.Test.YtabekdfijifnfaaQPCtxV
import Derived.Test.YtabekdfijifnfaaQPCtxW
import Derived.Test.YtabekdfijifnfaaQPCtxX
import Derived.Test.YtabekdfijifnfaaQPIntake
import Derived.Test.YtabekdfijifnfaaQPFold
import Derived.Test.YtabekdfijifnfaaQPParts
import Derived.Test.YtabekdfijifnfaaQPUpd
set_option linter.unusedVariables false
set_option linter.unusedSimpArgs false
set_option maxRecDepth 100000
namespace Go.VP
open Go Go.VI
def len8T : List UInt8 := [0] ++ List.replicate 1 1 ++ List.replicate 2 2 ++ List.replicate 4 3 ++ List.replicate 8 4 ++ List.replicate 16 5 ++ List.replicate 32 6 ++ List.replicate 64 7 ++ List.replicate 128 8
theorem len8T_ok : ∀ x : Fin 256, x.val ≠ 0 → ∃ y, len8T[x.val]? = some y ∧ 1 ≤ y.toNat ∧ y.toNat ≤ 8 := by
  have h : ∀ x : Fin 256, x.val ≠ 0 → 1 ≤ (len8T[x.val]?.getD 0).toNat ∧ (len8T[x.val]?.getD 0).toNat ≤ 8 := by decide +kernel
  have hl : len8T.length = 256 := by decide +kernel
  intro x hx
  refine ⟨len8T[x.val]?.getD 0, get_bt (by omega), h x hx⟩
theorem len8_eq (a0 : Int) : g_math_bits_Len8 (a0, ()) = if 0 ≤ a0 then len8T[a0.toNat]?.bind fun (y1 : UInt8) => some (((IntKind.wrap .i64 (y1.toNat : Int)), ()), ()) else none := g_math_bits_Len8_eq a0
theorem lz8_is {n : Nat} (h0 : n ≠ 0) (h : n < 256) : ∃ z : Int, g_math_bits_LeadingZeros8 ((n : Int), ()) = some ((z, ()), ()) ∧ 0 ≤ z ∧ z ≤ 7 := by
  obtain ⟨y, h1, h2, h3⟩ := len8T_ok ⟨n, h⟩ h0
  have h1 : len8T[n]? = some y := h1
  rw [g_math_bits_LeadingZeros8_eq, len8_eq, if_pos (by omega), Int.toNat_natCast, h1, Option.bind_some, Option.bind_some]
  dsimp only
  rw [w64n, w64 (by omega) (by omega)]
  exact ⟨_, rfl, by omega, by omega⟩
theorem xor_ne {a b : UInt8} : (ibits .xor .u8 (a.toNat : Int) (b.toNat : Int) ≠ 0) ↔ a ≠ b := by
  rw [ib8_xor a.toNat_lt b.toNat_lt]
  constructor
  · intro h e; subst e; simp at h
  · intro h e
    have h0 : a.toNat ^^^ b.toNat = 0 := by omega
    exact h (UInt8.toNat.inj (by
      have := congrArg (· ^^^ b.toNat) h0
      simpa [Nat.xor_assoc] using this))
theorem leadN_nil {x y : Bs} (h : x = [] ∨ y = []) : leadN x y = 0 := by
  rcases h with rfl | rfl
  · cases y <;> rfl
  · cases x <;> rfl
theorem alike_loop {a b : Bs} {n : Nat} (ha : a.length ≤ 100000) (hb : b.length ≤ 100000) : ∀ (d m i : Nat), i + d = min a.length b.length → d < m → ∃ A : Int, L_bits_Alike_0 n m a b (if (b.length : Int) < (a.length : Int) then (b.length : Int) else (a.length : Int)) i = some ((A, ()), ()) ∧ A / 8 = i + leadN (a.drop i) (b.drop i) ∧ 0 ≤ A ∧ A ≤ 10000000 := by
  have hmin : (if (b.length : Int) < (a.length : Int) then (b.length : Int) else (a.length : Int)) = ((min a.length b.length : Nat) : Int) := by split <;> omega
  rw [hmin]
  intro d
  induction d with
  | zero =>
    intro m i hd hm
    obtain ⟨m, rfl⟩ : ∃ k, m = k + 1 := ⟨m - 1, by omega⟩
    rw [L_bits_Alike_0_eq, ifn (by omega), hmin, w64 (by omega) (by omega)]
    refine ⟨_, rfl, ?_, by omega, by omega⟩
    rw [leadN_nil (by
      by_cases h : a.length ≤ b.length
      · exact .inl (List.drop_eq_nil_of_le (by omega))
      · exact .inr (List.drop_eq_nil_of_le (by omega)))]
    omega
  | succ d ih =>
    intro m i hd hm
    obtain ⟨m, rfl⟩ : ∃ k, m = k + 1 := ⟨m - 1, by omega⟩
    have hp : 0 ≤ (i : Int) := by omega
    have hi : i < a.length := by omega
    have hib : i < b.length := by omega
    rw [L_bits_Alike_0_eq, ifd (by omega)]
    simp only [if_pos hp, Int.toNat_natCast, List.getElem?_eq_getElem hi, List.getElem?_eq_getElem hib, Option.bind_some]
    rw [List.drop_eq_getElem_cons hi, List.drop_eq_getElem_cons hib, leadN]
    by_cases he : a[i] = b[i]
    · obtain ⟨A, h1, h2, h3, h4⟩ := ih m (i + 1) (by omega) (by omega)
      rw [show ((i + 1 : Nat) : Int) = (i : Int) + 1 by omega] at h1 h2
      have hz : ibits .xor .u8 ((a[i]).toNat : Int) ((b[i]).toNat : Int) = 0 := Classical.byContradiction fun h => xor_ne.1 h he
      rw [if_pos he, hz, if_neg (by decide), w64 (by omega) (by omega)]
      exact ⟨A, h1, by omega, h3, h4⟩
    · have hz := xor_ne.2 he
      rw [if_neg he, if_pos (by simpa using hz)]
      rw [ib8_xor (a[i]).toNat_lt (b[i]).toNat_lt] at hz ⊢
      have hx : (a[i]).toNat ^^^ (b[i]).toNat < 256 := Nat.xor_lt_two_pow (n := 8) (a[i]).toNat_lt (b[i]).toNat_lt
      obtain ⟨z, k1, k2, k3⟩ := lz8_is (n := (a[i]).toNat ^^^ (b[i]).toNat) (by omega) hx
      rw [k1, Option.bind_some]
      dsimp only
      rw [w64 (x := 8 * (i : Int)) (by omega) (by omega), w64 (by omega) (by omega)]
      exact ⟨_, rfl, by omega, by omega, by omega⟩
theorem lead_is {a b : Bs} (ha : a.length ≤ 100000) (hb : b.length ≤ 100000) : g_prefix_Lead (a, b, ()) = some ((((leadN a b : Nat) : Int), ()), ()) := by
  have hA : ∃ A : Int, g_bits_Alike (a, b, ()) = some ((A, ()), ()) ∧ A / 8 = leadN a b ∧ 0 ≤ A := by
    show ∃ A : Int, h_bits_Alike fuel (a, b, ()) = _ ∧ _
    rw [h_bits_Alike_eq]
    obtain ⟨A, h1, h2, h3, _⟩ := alike_loop (n := fuel) ha hb (min a.length b.length) fuel 0 (by omega) (fuel_ge (by omega))
    exact ⟨A, h1, by simpa using h2, h3⟩
  obtain ⟨A, h1, h2, h3⟩ := hA
  rw [g_prefix_Lead_eq, h1, Option.bind_some]
  dsimp only
  rw [ishr3 h3, h2]
theorem rlead_loop {a b : Bs} {n : Nat} (ha : a.length ≤ 100000) (hb : b.length ≤ 100000) : ∀ (d m i : Nat), i + d = min a.length b.length → d < m → L_ref04_Lead_0 n m a b i = some ((((i + leadN (a.drop i) (b.drop i) : Nat) : Int), ()), ()) := by
  intro d
  induction d with
  | zero =>
    intro m i hd hm
    obtain ⟨m, rfl⟩ : ∃ k, m = k + 1 := ⟨m - 1, by omega⟩
    rw [L_ref04_Lead_0_eq, leadN_nil (by
      by_cases h : a.length ≤ b.length
      · exact .inl (List.drop_eq_nil_of_le (by omega))
      · exact .inr (List.drop_eq_nil_of_le (by omega)))]
    by_cases h : (i : Int) < a.length
    · rw [ifd h, ifn (by omega)]; rfl
    · rw [ifn h]; rfl
  | succ d ih =>
    intro m i hd hm
    obtain ⟨m, rfl⟩ : ∃ k, m = k + 1 := ⟨m - 1, by omega⟩
    have hp : 0 ≤ (i : Int) := by omega
    have hi : i < a.length := by omega
    have hib : i < b.length := by omega
    rw [L_ref04_Lead_0_eq, ifd (by omega), ifd (by omega)]
    simp only [if_pos hp, Int.toNat_natCast, List.getElem?_eq_getElem hi, List.getElem?_eq_getElem hib, Option.bind_some]
    rw [List.drop_eq_getElem_cons hi, List.drop_eq_getElem_cons hib, leadN]
    refine bq_step (fun he => ?_) (fun he => ?_)
    · have h1 := ih m (i + 1) (by omega) (by omega)
      rw [show ((i + 1 : Nat) : Int) = (i : Int) + 1 by omega] at h1
      rw [if_pos (u8_eq he), w64 (by omega) (by omega), h1, show i + 1 + leadN (a.drop (i + 1)) (b.drop (i + 1)) = i + (leadN (a.drop (i + 1)) (b.drop (i + 1)) + 1) by omega]
    · rw [if_neg (fun e => he (by rw [e]))]; rfl
theorem rlead_is {a b : Bs} (ha : a.length ≤ 100000) (hb : b.length ≤ 100000) : g_ref04_Lead (a, b, ()) = some ((((leadN a b : Nat) : Int), ()), ()) := by
  show h_ref04_Lead fuel (a, b, ()) = _
  rw [h_ref04_Lead_eq]
  have := rlead_loop (n := fuel) ha hb (min a.length b.length) fuel 0 (by omega) (fuel_ge (by omega))
  simpa using this
end Go.VP
