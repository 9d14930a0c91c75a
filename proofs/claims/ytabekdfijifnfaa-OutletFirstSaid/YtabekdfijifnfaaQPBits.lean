/- The first bits of bytes; prefixes. -/
import Derived.Test.YtabekdfijifnfaaQFQ0
import Derived.Test.YtabekdfijifnfaaQFQ1
import Derived.Test.YtabekdfijifnfaaQFQ2
import Derived.Test.YtabekdfijifnfaaQFQ3
import Derived.Test.YtabekdfijifnfaaQFQ5
import Derived.Test.YtabekdfijifnfaaQFQ9
import Derived.Test.YtabekdfijifnfaaQPBase
import Derived.Test.YtabekdfijifnfaaQPCur
import Derived.Test.YtabekdfijifnfaaQPOct
set_option linter.unusedVariables false
set_option linter.unusedSimpArgs false
set_option maxRecDepth 100000
namespace Go.VP
open Go Go.VI
def maskN (b k : Nat) : Nat := b / 2 ^ (8 - k) * 2 ^ (8 - k)
def maskB (b : UInt8) (k : Int) : UInt8 := UInt8.ofNat (maskN b.toNat (min k.toNat 8))
theorem maskN_le (b k : Nat) : maskN b k ≤ b := Nat.div_mul_le_self ..
theorem maskB_toNat (b : UInt8) (k : Int) : (maskB b k).toNat = maskN b.toNat (min k.toNat 8) := by
  have := maskN_le b.toNat (min k.toNat 8); have := b.toNat_lt
  unfold maskB; rw [UInt8.toNat_ofNat']; omega
theorem maskB_all {b : UInt8} {k : Int} (h : 8 ≤ k) : maskB b k = b := by
  apply UInt8.toNat.inj
  rw [maskB_toNat, show min k.toNat 8 = 8 by omega]; simp [maskN]
theorem maskB_none {b : UInt8} {k : Int} (h : k ≤ 0) : maskB b k = 0 := by
  apply UInt8.toNat.inj
  have := b.toNat_lt
  rw [maskB_toNat, show min k.toNat 8 = 0 by omega]; simp [maskN]; omega
def keepF : Bs → Int → Bs
  | [], _ => []
  | b :: r, n => maskB b n :: keepF r (n - 8)
theorem keepF_length : ∀ (s : Bs) (n : Int), (keepF s n).length = s.length
  | [], _ => rfl
  | b :: r, n => by simp [keepF, keepF_length r]
theorem keepF_all : ∀ {s : Bs} {n : Int}, 8 * (s.length : Int) ≤ n → keepF s n = s
  | [], _, _ => rfl
  | b :: r, n, h => by simp only [List.length_cons] at h; rw [keepF, maskB_all (by omega), keepF_all (by omega)]
theorem keepF_none : ∀ {s : Bs} {n : Int}, n ≤ 0 → keepF s n = List.replicate s.length 0
  | [], _, _ => rfl
  | b :: r, n, h => by rw [keepF, maskB_none h, keepF_none (by omega), List.length_cons, List.replicate_succ]
theorem keepF_append : ∀ (a b : Bs) (n : Int), keepF (a ++ b) n = keepF a n ++ keepF b (n - 8 * a.length)
  | [], b, n => by simp [keepF]
  | x :: a, b, n => by simp only [List.cons_append, keepF, keepF_append a b, List.length_cons]; congr 3; omega
theorem keepF_get : ∀ (s : Bs) (n : Int) (j : Nat) (h : j < s.length), (keepF s n)[j]'(by rw [keepF_length]; exact h) = maskB s[j] (n - 8 * j)
  | b :: r, n, 0, _ => by simp [keepF]
  | b :: r, n, j + 1, h => by
    have := keepF_get r (n - 8) j (by simpa using h)
    simp only [keepF, List.getElem_cons_succ, this]
    congr 1; omega
theorem keepF_mid {s : Bs} {n : Int} (h0 : 0 ≤ n) (h : n < 8 * s.length) : keepF s n = s.take (n / 8).toNat ++ maskB (s[(n / 8).toNat]'(by omega)) (n % 8) :: List.replicate (s.length - (n / 8).toNat - 1) 0 := by
  have hk : (n / 8).toNat < s.length := by omega
  have e : s = s.take (n / 8).toNat ++ (s[(n / 8).toNat] :: s.drop ((n / 8).toNat + 1)) := by rw [← List.drop_eq_getElem_cons hk, List.take_append_drop]
  have hl : (s.take (n / 8).toNat).length = (n / 8).toNat := by rw [List.length_take]; omega
  have := congrArg (fun x => keepF x n) e
  rw [this, keepF_append, hl, keepF_all (by omega), keepF, keepF_none (by omega), List.length_drop]
  congr 3
  all_goals omega
theorem andnot_all : ∀ y : Fin 256, ∀ j : Fin 8, (u8of (ibits .andNot .u8 (y.val : Int) (ishr .u8 255 (j.val : Int)))).toNat = maskN y.val j.val := by decide +kernel
theorem ib64_and7 {n : Int} (h0 : 0 ≤ n) (h : n ≤ 9223372036854775807) : ibits .and .i64 n 7 = n % 8 := by
  obtain ⟨a, rfl⟩ : ∃ a : Nat, n = a := ⟨n.toNat, by omega⟩
  unfold ibits
  show IntKind.wrap .i64 (((BitVec.ofInt 64 (a : Int) &&& BitVec.ofInt 64 ((7 : Nat) : Int)).toNat : Nat) : Int) = _
  have e : a &&& 7 = a % 8 := Nat.and_two_pow_sub_one_eq_mod a 3
  rw [BitVec.toNat_and, BitVec.ofInt_natCast, BitVec.ofInt_natCast, BitVec.toNat_ofNat, BitVec.toNat_ofNat, Nat.mod_eq_of_lt (by omega), Nat.mod_eq_of_lt (by omega), e, w64 (by omega) (by omega)]
  omega
theorem ishr3 {n : Int} (h0 : 0 ≤ n) : ishr .i64 n 3 = n / 8 := by
  unfold ishr
  rw [show ((2 : Int) ^ min (3 : Int).toNat IntKind.i64.bits) = 8 by decide]
  exact Int.fdiv_eq_ediv_of_nonneg _ (by decide)
theorem keep_is {s : Bs} {n : Int} (hs : s.length ≤ 1000000000) (hn : IntKind.has .i64 n) : g_bits_Keep (s, n, ()) = some ((keepF s n, ()), ()) := by
  rw [has64] at hn
  rw [g_bits_Keep_eq, w64 (x := 8 * (s.length : Int)) (by omega) (by omega)]
  by_cases h1 : 8 * (s.length : Int) ≤ n
  · rw [ifd h1, keepF_all h1]
  · rw [ifn h1, if_pos (show 0 ≤ (s.length : Int) ∧ (s.length : Int) ≤ roomI by unfold roomI; omega)]
    by_cases h2 : n ≤ 0
    · rw [ifd h2, keepF_none h2, Int.toNat_natCast]
    · rw [ifn h2, ishr3 (by omega), ib64_and7 (by omega) (by omega), wu64 (by omega) (by omega), if_pos (show 0 ≤ n / 8 ∧ n / 8 ≤ (s.length : Int) by omega), if_pos (show 0 ≤ n / 8 by omega)]
      have hk : (n / 8).toNat < s.length := by omega
      have hl : ((s.take (n / 8).toNat).take ((List.replicate (s.length : Int).toNat (0 : UInt8)).length) ++ (List.replicate (s.length : Int).toNat (0 : UInt8)).drop (s.take (n / 8).toNat).length).length = s.length := by
        simp; omega
      rw [bind_at hk, if_pos (show 0 ≤ n % 8 by omega), hl, if_pos (show 0 ≤ n / 8 ∧ n / 8 < (s.length : Int) by omega), if_pos hk, keepF_mid (by omega) (by omega)]
      have e1 : u8of (ibits .andNot .u8 ((s[(n / 8).toNat].toNat : Nat) : Int) (ishr .u8 255 (n % 8))) = maskB s[(n / 8).toNat] (n % 8) := by
        apply UInt8.toNat.inj
        have := andnot_all ⟨s[(n / 8).toNat].toNat, s[(n / 8).toNat].toNat_lt⟩ ⟨(n % 8).toNat, by omega⟩
        dsimp only at this
        rw [show (((n % 8).toNat : Nat) : Int) = n % 8 by omega] at this
        rw [this, maskB_toNat, show min (n % 8).toNat 8 = (n % 8).toNat by omega]
      have e2 : (s.take (n / 8).toNat).length = (n / 8).toNat := by rw [List.length_take]; omega
      have e3 : (s.take (n / 8).toNat).take ((List.replicate (s.length : Int).toNat (0 : UInt8)).length) = s.take (n / 8).toNat := List.take_of_length_le (by simp; omega)
      have e4 : (List.replicate (s.length : Int).toNat (0 : UInt8)).drop (n / 8).toNat = 0 :: List.replicate (s.length - (n / 8).toNat - 1) 0 := by
        rw [List.drop_replicate, Int.toNat_natCast, show s.length - (n / 8).toNat = (s.length - (n / 8).toNat - 1) + 1 by omega, List.replicate_succ]
        simp
      rw [e1, e3, e2, e4, List.set_append_right _ _ (by omega), e2, Nat.sub_self, List.set_cons_zero]
theorem mask_step : ∀ b : Fin 256, ∀ r : Fin 8, maskN b.val (r.val + 1) = maskN b.val r.val + b.val / 2 ^ (7 - r.val) % 2 * 2 ^ (7 - r.val) := by decide +kernel
theorem ishl_u8 : ∀ r : Fin 8, ishl .u8 1 (r.val : Int) = 2 ^ r.val := by decide +kernel
theorem bit_is {s : Bs} {i : Nat} (hs : s.length ≤ 1000000000) (h : i < 8 * s.length) : g_ref03_Bit (s, (i : Int), ()) = some ((decide ((s[i / 8]'(by omega)).toNat / 2 ^ (7 - i % 8) % 2 = 1), ()), ()) := by
  have hk : i / 8 < s.length := by omega
  have e1 : Int.tdiv (i : Int) 8 = ((i / 8 : Nat) : Int) := by rw [Int.tdiv_eq_ediv_of_nonneg (by omega)]; omega
  have e2 : Int.tmod (i : Int) 8 = ((i % 8 : Nat) : Int) := by rw [Int.tmod_eq_emod_of_nonneg (by omega)]; omega
  rw [g_ref03_Bit_eq, ifd (by omega), w64 (x := 8 * (s.length : Int)) (by omega) (by omega), ifd (by omega), e1, e2, w64 (x := ((i / 8 : Nat) : Int)) (by omega) (by omega), if_pos (by omega), Int.toNat_natCast, bind_at hk, w64 (x := 7 - ((i % 8 : Nat) : Int)) (by omega) (by omega), wu64 (by omega) (by omega), if_pos (by omega), w64n]
  have e3 : ishr .i64 ((s[i / 8].toNat : Nat) : Int) (7 - ((i % 8 : Nat) : Int)) = ((s[i / 8].toNat / 2 ^ (7 - i % 8) : Nat) : Int) := by
    unfold ishr
    rw [show min (7 - ((i % 8 : Nat) : Int)).toNat IntKind.i64.bits = 7 - i % 8 by simp only [IntKind.bits]; omega, Int.fdiv_eq_ediv_of_nonneg _ (Int.pow_nonneg (by decide))]
    simp
  rw [e3]
  have e4 : ∀ m : Nat, (Int.tmod (m : Int) 2 == 1) = decide (m % 2 = 1) := fun m => by
    rw [Int.tmod_eq_emod_of_nonneg (by omega), Bool.eq_iff_iff]; simp; omega
  rw [e4]
theorem keepF_succ {s : Bs} {i : Nat} (h : i < 8 * s.length) : keepF s (i + 1 : Nat) = (if (s[i / 8]'(by omega)).toNat / 2 ^ (7 - i % 8) % 2 = 1 then (keepF s i).set (i / 8) (UInt8.ofNat (((keepF s i)[i / 8]'(by rw [keepF_length]; omega)).toNat + 2 ^ (7 - i % 8))) else keepF s i) := by
  have hk : i / 8 < s.length := by omega
  have far : ∀ j (hj : j < s.length), j ≠ i / 8 → maskB (s[j]'hj) (((i + 1 : Nat) : Int) - 8 * j) = maskB (s[j]'hj) ((i : Int) - 8 * j) := by
    intro j hj hne
    by_cases hlt : j < i / 8
    · rw [maskB_all (by omega), maskB_all (by omega)]
    · rw [maskB_none (by omega), maskB_none (by omega)]
  have st := mask_step ⟨s[i / 8].toNat, s[i / 8].toNat_lt⟩ ⟨i % 8, by omega⟩
  dsimp only at st
  have m1 : (maskB s[i / 8] (((i + 1 : Nat) : Int) - 8 * ((i / 8 : Nat) : Int))).toNat = maskN s[i / 8].toNat (i % 8 + 1) := by rw [maskB_toNat]; congr 1; omega
  have m0 : (maskB s[i / 8] ((i : Int) - 8 * ((i / 8 : Nat) : Int))).toNat = maskN s[i / 8].toNat (i % 8) := by rw [maskB_toNat]; congr 1; omega
  apply List.ext_getElem
  · split <;> simp [keepF_length]
  · intro j h1 h2
    have hj : j < s.length := by rw [keepF_length] at h1; exact h1
    rw [keepF_get s _ j hj]
    split
    · rename_i hb
      rw [List.getElem_set]
      split
      · rename_i he
        subst he
        apply UInt8.toNat.inj
        have lt := (maskB s[i / 8] (((i + 1 : Nat) : Int) - 8 * ((i / 8 : Nat) : Int))).toNat_lt
        rw [m1] at lt
        rw [m1, keepF_get s _ _ hk, m0, UInt8.toNat_ofNat', st, hb, Nat.one_mul]
        rw [st, hb, Nat.one_mul] at lt
        exact (Nat.mod_eq_of_lt lt).symm
      · rw [keepF_get s _ j hj]; exact far j hj (by omega)
    · rename_i hb
      rw [keepF_get s _ j hj]
      by_cases he : j = i / 8
      · subst he
        apply UInt8.toNat.inj
        have : s[i / 8].toNat / 2 ^ (7 - i % 8) % 2 = 0 := by omega
        rw [m1, m0, st, this]; simp
      · exact far j hj he
theorem rkeep_loop {s : Bs} {n : Int} {c : Nat} (hs : s.length ≤ 1000000000) : ∀ (d m i : Nat), 8 * s.length - i = d → i ≤ 8 * s.length → (i : Int) ≤ n → d < m → L_ref03_Keep_0 c m s n i (keepF s i) = some ((keepF s n, ()), ()) := by
  intro d
  induction d with
  | zero =>
    intro m i hd hi hn hm
    obtain ⟨m, rfl⟩ : ∃ k, m = k + 1 := ⟨m - 1, by omega⟩
    rw [L_ref03_Keep_0_eq, w64 (x := 8 * (s.length : Int)) (by omega) (by omega), ifn (by omega), keepF_all (by omega), keepF_all (by omega)]
  | succ d ih =>
    intro m i hd hi hn hm
    obtain ⟨m, rfl⟩ : ∃ k, m = k + 1 := ⟨m - 1, by omega⟩
    rw [L_ref03_Keep_0_eq, w64 (x := 8 * (s.length : Int)) (by omega) (by omega), ifd (by omega)]
    by_cases h : (i : Int) < n
    · have hi' : i < 8 * s.length := by omega
      have e1 : Int.tdiv (i : Int) 8 = ((i / 8 : Nat) : Int) := by rw [Int.tdiv_eq_ediv_of_nonneg (by omega)]; omega
      have e2 : Int.tmod (i : Int) 8 = ((i % 8 : Nat) : Int) := by rw [Int.tmod_eq_emod_of_nonneg (by omega)]; omega
      have next := ih m (i + 1) (by omega) (by omega) (by omega) (by omega)
      rw [keepF_succ hi', show ((i + 1 : Nat) : Int) = (i : Int) + 1 by omega] at next
      rw [ifd h, bit_is hs hi', Option.bind_some, e1, e2, w64 (x := ((i / 8 : Nat) : Int)) (by omega) (by omega), w64 (x := 7 - ((i % 8 : Nat) : Int)) (by omega) (by omega), wu64 (by omega) (by omega), w64 (x := (i : Int) + 1) (by omega) (by omega), Int.toNat_natCast, keepF_length]
      dsimp only
      by_cases hb : (s[i / 8]'(by omega)).toNat / 2 ^ (7 - i % 8) % 2 = 1
      · rw [if_pos hb] at next
        have hk : i / 8 < (keepF s i).length := by rw [keepF_length]; omega
        rw [ifd hb, if_pos (by omega), bind_at hk, if_pos (by omega), if_pos (by omega), if_pos (by omega)]
        have e5 : u8of (IntKind.wrap .u8 ((((keepF s i)[i / 8]).toNat : Int) + ishl .u8 1 (7 - ((i % 8 : Nat) : Int)))) = UInt8.ofNat (((keepF s i)[i / 8]).toNat + 2 ^ (7 - i % 8)) := by
          have := ishl_u8 ⟨7 - i % 8, by omega⟩
          dsimp only at this
          rw [show ((7 - i % 8 : Nat) : Int) = 7 - ((i % 8 : Nat) : Int) by omega] at this
          rw [this, wu8]
          apply UInt8.toNat.inj
          have h1 := u8of_int ((((keepF s i)[i / 8]).toNat : Int) + 2 ^ (7 - i % 8))
          rw [u8of_emod' (by have : (0 : Int) ≤ 2 ^ (7 - i % 8) := Int.pow_nonneg (by decide); omega)]
          have : ((((keepF s i)[i / 8]).toNat : Int) + 2 ^ (7 - i % 8)) = (((((keepF s i)[i / 8]).toNat + 2 ^ (7 - i % 8) : Nat)) : Int) := by simp
          rw [this]
          unfold u8of
          rw [Int.toNat_natCast]
        rw [e5]
        exact next
      · rw [if_neg hb] at next
        rw [ifn hb]
        exact next
    · have : n = i := by omega
      rw [ifn h, this]
theorem rkeep_is {s : Bs} {n : Int} (hs : s.length ≤ 1000000000) : g_ref03_Keep (s, n, ()) = some ((keepF s n, ()), ()) := by
  show h_ref03_Keep fuel _ = _
  rw [h_ref03_Keep_eq, if_pos (by unfold roomI; omega), Int.toNat_natCast]
  by_cases h : 0 ≤ n
  · have := rkeep_loop (n := n) (c := fuel) hs (8 * s.length) fuel 0 (by omega) (by omega) (by omega) (fuel_ge (by omega))
    rw [keepF_none (n := ((0 : Nat) : Int)) (by omega)] at this
    exact this
  · obtain ⟨c, hc⟩ := fuel_pos
    have : fuel = (c + 999999999999) + 1 := by omega
    rw [keepF_none (by omega), this, L_ref03_Keep_0_eq, w64 (x := 8 * (s.length : Int)) (by omega) (by omega), ifn (show ¬ (0 : Int) < n by omega)]
    split <;> rfl
def cleanB (s : Bs) (n : Int) : Bool := keepF s n == s
theorem clean_is {s : Bs} {n : Int} (hs : s.length ≤ 1000000000) (hn : IntKind.has .i64 n) : g_bits_Clean (s, n, ()) = some ((cleanB s n, ()), ()) := by
  rw [g_bits_Clean_eq, keep_is hs hn]; rfl
theorem rclean_is {s : Bs} {n : Int} (hs : s.length ≤ 1000000000) : g_ref03_Clean (s, n, ()) = some ((cleanB s n, ()), ()) := by
  rw [g_ref03_Clean_eq, rkeep_is hs]; rfl
def leastF (n : Int) : Int := if n < 0 then 0 else (n + 7) / 8
theorem least_is {n : Int} (h : n ≤ 9000000000000000000) : g_prefix_Least (n, ()) = some ((leastF n, ()), ()) := by
  rw [g_prefix_Least_eq]
  unfold leastF
  by_cases h0 : n < 0
  · rw [if_pos (show 0 > n from h0), if_pos h0]; rfl
  · rw [if_neg (show ¬ 0 > n from h0), if_neg h0, w64 (by omega) (by omega), ishr3 (by omega)]
theorem rleast_is {n : Int} (h : n ≤ 9000000000000000000) : g_ref04_Least (n, ()) = some ((leastF n, ()), ()) := by
  rw [g_ref04_Least_eq]
  unfold leastF
  by_cases h0 : n < 0
  · rw [ifd h0, if_pos h0]
  · rw [ifn h0, if_neg h0, w64 (x := n + 7) (by omega) (by omega), Int.tdiv_eq_ediv_of_nonneg (by omega), w64 (by omega) (by omega)]
def fillF (s : Bs) (n : Int) : Bs := s ++ List.replicate (n.toNat - s.length) 0
theorem rfill_loop {n : Int} {c : Nat} (h : n ≤ 1000000000) : ∀ (d m : Nat) (s : Bs), n.toNat - s.length = d → d < m → L_ref04_Fill_0 c m n s = some ((fillF s n, ()), ()) := by
  intro d
  induction d with
  | zero =>
    intro m s hd hm
    obtain ⟨m, rfl⟩ : ∃ k, m = k + 1 := ⟨m - 1, by omega⟩
    rw [L_ref04_Fill_0_eq, ifn (by omega), fillF, hd]; simp
  | succ d ih =>
    intro m s hd hm
    obtain ⟨m, rfl⟩ : ∃ k, m = k + 1 := ⟨m - 1, by omega⟩
    rw [L_ref04_Fill_0_eq, ifd (by omega), if_pos (maxB_of (by omega)), ih m (s ++ [0]) (by simp; omega) (by omega), fillF, fillF, hd]
    have : n.toNat - (s ++ [0]).length = d := by simp; omega
    rw [this, List.replicate_succ]
    simp
theorem rfill_is {s : Bs} {n : Int} (h : n ≤ 1000000000) : g_ref04_Fill (s, n, ()) = some ((fillF s n, ()), ()) := by
  show h_ref04_Fill fuel _ = _
  rw [h_ref04_Fill_eq]
  exact rfill_loop (c := fuel) h _ fuel s rfl (fuel_ge (by omega))
def cutF (a : Bs) (n : Int) : Bs := keepF (a.take (leastF n).toNat) n
theorem leastF_nn (n : Int) : 0 ≤ leastF n := by unfold leastF; split <;> omega
theorem min_toNat (a : Bs) (n : Int) (h : 0 ≤ n) : 0 ≤ (if (a.length : Int) < n then (a.length : Int) else n) ∧ (if (a.length : Int) < n then (a.length : Int) else n) ≤ (a.length : Int) ∧ a.take (if (a.length : Int) < n then (a.length : Int) else n).toNat = a.take n.toNat := by
  split
  · refine ⟨by omega, by omega, ?_⟩
    rw [Int.toNat_natCast, List.take_length, List.take_of_length_le (by omega)]
  · exact ⟨by omega, by omega, rfl⟩
theorem pcut_is {a : Bs} {n : Int} (ha : a.length ≤ 1000000000) (hn : IntKind.has .i64 n) (h : n ≤ 9000000000000000000) : g_prefix_Cut (a, n, ()) = some ((cutF a n, ()), ()) := by
  obtain ⟨m1, m2, m3⟩ := min_toNat a (leastF n) (leastF_nn n)
  rw [g_prefix_Cut_eq, least_is h, Option.bind_some]
  dsimp only
  rw [if_pos ⟨m1, m2⟩, m3, keep_is (by rw [List.length_take]; omega) hn]; rfl
theorem keepF_take (a : Bs) (n : Int) : ∀ k : Nat, (keepF a n).take k = keepF (a.take k) n := by
  intro k
  induction a generalizing n k with
  | nil => simp [keepF]
  | cons b r ih =>
    cases k with
    | zero => simp [keepF]
    | succ k => simp [keepF, ih]
theorem rcut_is {a : Bs} {n : Int} (ha : a.length ≤ 1000000000) (h : n ≤ 9000000000000000000) : g_ref04_Cut (a, n, ()) = some ((cutF a n, ()), ()) := by
  obtain ⟨m1, m2, m3⟩ := min_toNat a (leastF n) (leastF_nn n)
  rw [g_ref04_Cut_eq, rkeep_is ha, Option.bind_some, rleast_is h, Option.bind_some]
  dsimp only
  rw [if_pos (by rw [keepF_length]; exact ⟨m1, m2⟩), keepF_take, m3]; rfl
end Go.VP
