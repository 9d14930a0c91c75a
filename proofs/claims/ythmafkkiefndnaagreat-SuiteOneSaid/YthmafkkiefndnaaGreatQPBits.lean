/- The first bits of bytes; prefixes. -/
import Derived.Test.YthmafkkiefndnaaGreatQFQ1
import Derived.Test.YthmafkkiefndnaaGreatQFH
import Derived.Test.YthmafkkiefndnaaGreatQFQ3
import Derived.Test.YthmafkkiefndnaaGreatQFQ6
import Derived.Test.YthmafkkiefndnaaGreatQFQ7
import Derived.Test.YthmafkkiefndnaaGreatQPBase
import Derived.Test.YthmafkkiefndnaaGreatQPCur
import Derived.Test.YthmafkkiefndnaaGreatQPOct
set_option linter.unusedVariables false
set_option linter.unusedSimpArgs false
set_option maxRecDepth 100000
namespace Go.VP
open Go Go.VI
def maskN (b k : Nat) : Nat := b / 2 ^ (8 - k) * 2 ^ (8 - k)
def maskB (b : UInt8) (k : Int) : UInt8 := UInt8.ofNat (maskN b.toNat (min k.toNat 8))
theorem maskN_le (b k : Nat) : maskN b k ≤ b := Nat.div_mul_le_self ..
theorem maskB_toNat (b : UInt8) (k : Int) : (maskB b k).toNat = maskN b.toNat (min k.toNat 8) := by
  have := maskN_le b.toNat (min k.toNat 8); have := b.toNat_lt
  unfold maskB; rw [UInt8.toNat_ofNat']; omega
theorem maskB_all {b : UInt8} {k : Int} (h : 8 ≤ k) : maskB b k = b := by
  apply UInt8.toNat.inj
  rw [maskB_toNat, show min k.toNat 8 = 8 by omega]; simp [maskN]
theorem maskB_none {b : UInt8} {k : Int} (h : k ≤ 0) : maskB b k = 0 := by
  apply UInt8.toNat.inj
  have := b.toNat_lt
  rw [maskB_toNat, show min k.toNat 8 = 0 by omega]; simp [maskN]; omega
def keepF : Bs → Int → Bs
  | [], _ => []
  | b :: r, n => maskB b n :: keepF r (n - 8)
theorem keepF_length : ∀ (s : Bs) (n : Int), (keepF s n).length = s.length
  | [], _ => rfl
  | b :: r, n => by simp [keepF, keepF_length r]
theorem keepF_all : ∀ {s : Bs} {n : Int}, 8 * (s.length : Int) ≤ n → keepF s n = s
  | [], _, _ => rfl
  | b :: r, n, h => by simp only [List.length_cons] at h; rw [keepF, maskB_all (by omega), keepF_all (by omega)]
theorem keepF_none : ∀ {s : Bs} {n : Int}, n ≤ 0 → keepF s n = List.replicate s.length 0
  | [], _, _ => rfl
  | b :: r, n, h => by rw [keepF, maskB_none h, keepF_none (by omega), List.length_cons, List.replicate_succ]
theorem keepF_append : ∀ (a b : Bs) (n : Int), keepF (a ++ b) n = keepF a n ++ keepF b (n - 8 * a.length)
  | [], b, n => by simp [keepF]
  | x :: a, b, n => by simp only [List.cons_append, keepF, keepF_append a b, List.length_cons]; congr 3; omega
theorem keepF_mid {s : Bs} {n : Int} (h0 : 0 ≤ n) (h : n < 8 * s.length) : keepF s n = s.take (n / 8).toNat ++ maskB (s[(n / 8).toNat]'(by omega)) (n % 8) :: List.replicate (s.length - (n / 8).toNat - 1) 0 := by
  have hk : (n / 8).toNat < s.length := by omega
  have e : s = s.take (n / 8).toNat ++ (s[(n / 8).toNat] :: s.drop ((n / 8).toNat + 1)) := by rw [← List.drop_eq_getElem_cons hk, List.take_append_drop]
  have hl : (s.take (n / 8).toNat).length = (n / 8).toNat := by rw [List.length_take]; omega
  have := congrArg (fun x => keepF x n) e
  rw [this, keepF_append, hl, keepF_all (by omega), keepF, keepF_none (by omega), List.length_drop]
  congr 3
  all_goals omega
theorem andnot_all : ∀ y : Fin 256, ∀ j : Fin 8, (u8of (ibits .andNot .u8 (y.val : Int) (ishr .u8 255 (j.val : Int)))).toNat = maskN y.val j.val := by decide +kernel
theorem ib64_and7 {n : Int} (h0 : 0 ≤ n) (h : n ≤ 9223372036854775807) : ibits .and .i64 n 7 = n % 8 := by
  obtain ⟨a, rfl⟩ : ∃ a : Nat, n = a := ⟨n.toNat, by omega⟩
  unfold ibits
  show IntKind.wrap .i64 (((BitVec.ofInt 64 (a : Int) &&& BitVec.ofInt 64 ((7 : Nat) : Int)).toNat : Nat) : Int) = _
  have e : a &&& 7 = a % 8 := Nat.and_two_pow_sub_one_eq_mod a 3
  rw [BitVec.toNat_and, BitVec.ofInt_natCast, BitVec.ofInt_natCast, BitVec.toNat_ofNat, BitVec.toNat_ofNat, Nat.mod_eq_of_lt (by omega), Nat.mod_eq_of_lt (by omega), e, w64 (by omega) (by omega)]
  omega
theorem ishr3 {n : Int} (h0 : 0 ≤ n) : ishr .i64 n 3 = n / 8 := by
  unfold ishr
  rw [show ((2 : Int) ^ min (3 : Int).toNat IntKind.i64.bits) = 8 by decide]
  exact Int.fdiv_eq_ediv_of_nonneg _ (by decide)
theorem keep_is {s : Bs} {n : Int} (hs : s.length ≤ 1000000000) (hn : IntKind.has .i64 n) : g_bits_Keep (s, n, ()) = some ((keepF s n, ()), ()) := by
  rw [has64] at hn
  rw [g_bits_Keep_eq, w64 (x := 8 * (s.length : Int)) (by omega) (by omega)]
  by_cases h1 : 8 * (s.length : Int) ≤ n
  · rw [ifd h1, keepF_all h1]
  · rw [ifn h1, if_pos (show 0 ≤ (s.length : Int) ∧ (s.length : Int) ≤ roomI by unfold roomI; omega)]
    by_cases h2 : n ≤ 0
    · rw [ifd h2, keepF_none h2, Int.toNat_natCast]
    · rw [ifn h2, ishr3 (by omega), ib64_and7 (by omega) (by omega), wu64 (by omega) (by omega), if_pos (show 0 ≤ n / 8 ∧ n / 8 ≤ (s.length : Int) by omega), if_pos (show 0 ≤ n / 8 by omega)]
      have hk : (n / 8).toNat < s.length := by omega
      have hl : ((s.take (n / 8).toNat).take ((List.replicate (s.length : Int).toNat (0 : UInt8)).length) ++ (List.replicate (s.length : Int).toNat (0 : UInt8)).drop (s.take (n / 8).toNat).length).length = s.length := by
        simp; omega
      rw [bind_at hk, if_pos (show 0 ≤ n % 8 by omega), hl, if_pos (show 0 ≤ n / 8 ∧ n / 8 < (s.length : Int) by omega), if_pos hk, keepF_mid (by omega) (by omega)]
      have e1 : u8of (ibits .andNot .u8 ((s[(n / 8).toNat].toNat : Nat) : Int) (ishr .u8 255 (n % 8))) = maskB s[(n / 8).toNat] (n % 8) := by
        apply UInt8.toNat.inj
        have := andnot_all ⟨s[(n / 8).toNat].toNat, s[(n / 8).toNat].toNat_lt⟩ ⟨(n % 8).toNat, by omega⟩
        dsimp only at this
        rw [show (((n % 8).toNat : Nat) : Int) = n % 8 by omega] at this
        rw [this, maskB_toNat, show min (n % 8).toNat 8 = (n % 8).toNat by omega]
      have e2 : (s.take (n / 8).toNat).length = (n / 8).toNat := by rw [List.length_take]; omega
      have e3 : (s.take (n / 8).toNat).take ((List.replicate (s.length : Int).toNat (0 : UInt8)).length) = s.take (n / 8).toNat := List.take_of_length_le (by simp; omega)
      have e4 : (List.replicate (s.length : Int).toNat (0 : UInt8)).drop (n / 8).toNat = 0 :: List.replicate (s.length - (n / 8).toNat - 1) 0 := by
        rw [List.drop_replicate, Int.toNat_natCast, show s.length - (n / 8).toNat = (s.length - (n / 8).toNat - 1) + 1 by omega, List.replicate_succ]
        simp
      rw [e1, e3, e2, e4, List.set_append_right _ _ (by omega), e2, Nat.sub_self, List.set_cons_zero]
def cleanB (s : Bs) (n : Int) : Bool := keepF s n == s
theorem clean_is {s : Bs} {n : Int} (hs : s.length ≤ 1000000000) (hn : IntKind.has .i64 n) : g_bits_Clean (s, n, ()) = some ((cleanB s n, ()), ()) := by
  rw [g_bits_Clean_eq, keep_is hs hn]; rfl
def leastF (n : Int) : Int := if n < 0 then 0 else (n + 7) / 8
def cutF (a : Bs) (n : Int) : Bs := keepF (a.take (leastF n).toNat) n
end Go.VP
