/- RIP's parts: zeros, entries, masks. -/
import Derived.Test.YtnjhhopdiopbfaaFQ0
import Derived.Test.YtnjhhopdiopbfaaFQ2
import Derived.Test.YtnjhhopdiopbfaaFQ3
import Derived.Test.YtnjhhopdiopbfaaPBase
import Derived.Test.YtnjhhopdiopbfaaPCur
import Derived.Test.YtnjhhopdiopbfaaPOct
import Derived.Test.YtnjhhopdiopbfaaPTlv
import Derived.Test.YtnjhhopdiopbfaaPSub
import Derived.Test.YtnjhhopdiopbfaaPMsg
import Derived.Test.YtnjhhopdiopbfaaPBits
set_option linter.unusedVariables false
set_option linter.unusedSimpArgs false
set_option maxRecDepth 100000
namespace Go.VP
open Go Go.VI
def zeroB (s : Bs) : Bool := s.all (· == 0)
theorem zero_loop {n : Nat} {s : Bs} (hs : s.length ≤ 1000000000) : ∀ (d m i : Nat), i + d = s.length → d < m → L_octet_Zero_0 n m s i = some (((s.drop i).all (· == 0), ()), ()) := by
  intro d
  induction d with
  | zero =>
    intro m i hd hm
    obtain ⟨m, rfl⟩ : ∃ k, m = k + 1 := ⟨m - 1, by omega⟩
    rw [L_octet_Zero_0_eq, ifn (by omega), List.drop_eq_nil_of_le (by omega)]; rfl
  | succ d ih =>
    intro m i hd hm
    obtain ⟨m, rfl⟩ : ∃ k, m = k + 1 := ⟨m - 1, by omega⟩
    have ha : i < s.length := by omega
    have := ih m (i + 1) (by omega) (by omega)
    rw [show ((i + 1 : Nat) : Int) = (i : Int) + 1 by omega] at this
    rw [L_octet_Zero_0_eq, ifd (by omega), if_pos (by omega), Int.toNat_natCast, bind_at ha, w64 (by omega) (by omega), this, List.drop_eq_getElem_cons ha, List.all_cons]
    refine ne_step (fun h => ?_) (fun h => ?_)
    · have : (s[i] == 0) = false := by
        rw [beq_eq_false_iff_ne]; intro e; rw [e] at h; exact h rfl
      rw [this]; rfl
    · have : s[i] = 0 := u8_eq h
      rw [this]; simp
theorem zero_is {s : Bs} (hs : s.length ≤ 1000000000) : g_octet_Zero (s, ()) = some ((zeroB s, ()), ()) := by
  show h_octet_Zero fuel (s, ()) = _
  rw [h_octet_Zero_eq]
  exact zero_loop hs s.length fuel 0 (by omega) (fuel_ge (by omega))
abbrev z4 : Bs := [0, 0, 0, 0]
theorem zero4 {s : Bs} (h : s.length = 4) : zeroB s = true ↔ s = z4 := by
  match s, h with
  | [a, b, c, d], _ => simp [zeroB]
theorem zero8 {s t : Bs} (h : s.length = 4) (h' : t.length = 4) : zeroB (s ++ t) = true ↔ s = z4 ∧ t = z4 := by
  rw [← zero4 h, ← zero4 h']; simp [zeroB, List.all_append]
theorem nought_is : g_ref10_nought () = some ((z4, ()), ()) := g_ref10_nought_eq
/-- The entry of twenty bytes. -/
def entF (s : Bs) : S_api_Entry := ⟨num (cut_ s 0 2), num (cut_ s 2 2), cut_ s 4 4, cut_ s 8 4, cut_ s 12 4, num (cut_ s 16 4)⟩
theorem rnum_ok {s : Bs} {p q n : Int} (w : WfC s p q) (h : 1 ≤ n) (h7 : n ≤ 7) (h2 : p + n ≤ q) : g_entry_reader_num (⟨s, p, q, false⟩, n, ()) = some ((num (cut_ s p n), ()), (⟨s, p + n, q, false⟩, ())) := by
  rw [g_entry_reader_num_eq]
  have := num_ok w h h7 h2
  unfold cu at this
  dsimp only
  rw [this]; rfl
theorem rfour_ok {s : Bs} {p q : Int} (w : WfC s p q) (h2 : p + 4 ≤ q) : g_entry_reader_four (⟨s, p, q, false⟩, ()) = some ((cut_ s p 4, ()), (⟨s, p + 4, q, false⟩, ())) := by
  rw [g_entry_reader_four_eq]
  have := text_ok (n := 4) w (by omega) h2
  unfold cu at this
  dsimp only
  rw [this]; rfl
theorem entGet_is {s : Bs} (h : s.length = 20) : g_entry_Get (s, ()) = some ((entF s, true, ()), ()) := by
  have w := WfC.whole (s := s) (by omega)
  rw [g_entry_Get_eq, if_neg (by simp [h]), new_is, Option.bind_some]
  dsimp only [cu]
  rw [rnum_ok w (by omega) (by omega) (by omega), Option.bind_some]
  dsimp only
  rw [rnum_ok (w.fwd (by omega) (by omega)) (by omega) (by omega) (by omega), Option.bind_some]
  dsimp only
  rw [rfour_ok ((w.fwd (n := 2) (by omega) (by omega)).fwd (by omega) (by omega)) (by omega), Option.bind_some]
  dsimp only
  rw [rfour_ok (((w.fwd (n := 2) (by omega) (by omega)).fwd (n := 2) (by omega) (by omega)).fwd (by omega) (by omega)) (by omega), Option.bind_some]
  dsimp only
  rw [rfour_ok ((((w.fwd (n := 2) (by omega) (by omega)).fwd (n := 2) (by omega) (by omega)).fwd (n := 4) (by omega) (by omega)).fwd (by omega) (by omega)) (by omega), Option.bind_some]
  dsimp only
  rw [rnum_ok (((((w.fwd (n := 2) (by omega) (by omega)).fwd (n := 2) (by omega) (by omega)).fwd (n := 4) (by omega) (by omega)).fwd (n := 4) (by omega) (by omega)).fwd (by omega) (by omega)) (by omega) (by omega) (by omega), Option.bind_some]
  rfl
theorem rentGet_is {s : Bs} (h : s.length = 20) : g_ref08_Get (s, ()) = some ((entF s, true, ()), ()) := by
  rw [g_ref08_Get_eq, if_neg (by simp [h]), if_pos (by omega), number_is (by simp; omega), Option.bind_some, if_pos (by omega), number_is (by simp; omega), Option.bind_some, if_pos (by omega), if_pos (by omega), if_pos (by omega), if_pos (by omega), number_is (by simp; omega), Option.bind_some]
  have e : s.drop 16 = cut_ s 16 4 := by unfold cut_; rw [List.take_of_length_le (by simp; omega)]; rfl
  have e2 : s.take 2 = cut_ s 0 2 := by unfold cut_; simp
  rw [e, e2]; rfl
/-- The mask of a length. -/
def maskF (n : Int) : Bs := keepF [255, 255, 255, 255] n
theorem maskF_key : ∀ k : Fin 33, ([(u8of (IntKind.wrap .u8 (ishr .u32 (ishl .u32 4294967295 (IntKind.wrap .u64 (IntKind.wrap .i64 (32 - (k.val : Int))))) 24))), (u8of (IntKind.wrap .u8 (ishr .u32 (ishl .u32 4294967295 (IntKind.wrap .u64 (IntKind.wrap .i64 (32 - (k.val : Int))))) 16))), (u8of (IntKind.wrap .u8 (ishr .u32 (ishl .u32 4294967295 (IntKind.wrap .u64 (IntKind.wrap .i64 (32 - (k.val : Int))))) 8))), (u8of (IntKind.wrap .u8 (ishl .u32 4294967295 (IntKind.wrap .u64 (IntKind.wrap .i64 (32 - (k.val : Int)))))))] : Bs) = maskF k.val := by decide +kernel
theorem maskF_length (n : Int) : (maskF n).length = 4 := by unfold maskF; rw [keepF_length]; rfl
theorem fin33 {n : Int} (h : 0 ≤ n) (h' : n ≤ 32) : ∃ k : Fin 33, n = (k.val : Int) := ⟨⟨n.toNat, by omega⟩, by simp; omega⟩
theorem maskOf_is {n : Int} (h : 0 ≤ n) (h' : n ≤ 32) : g_mask_Of (n, ()) = some ((maskF n, true, ()), ()) := by
  obtain ⟨k, rfl⟩ := fin33 h h'
  rw [g_mask_Of_eq, ifn (by omega), ifn (by omega), if_pos (by rw [w64 (by omega) (by omega), wu64 (by omega) (by omega)]; omega), maskF_key k]
theorem maskOf_bad {n : Int} (h : n < 0 ∨ 32 < n) : g_mask_Of (n, ()) = some (([], false, ()), ()) := by
  rw [g_mask_Of_eq]
  by_cases h0 : n < 0
  · rw [ifd h0]
  · rw [ifn h0, ifd (by omega)]
theorem rmaskOf_is {n : Int} (h : 0 ≤ n) (h' : n ≤ 32) : g_ref05_Of (n, ()) = some ((maskF n, true, ()), ()) := by
  rw [g_ref05_Of_eq, ifn (by omega), ifn (by omega), rkeep_is (by simp), Option.bind_some]; rfl
def plenGo (s : Bs) : Nat → Nat → Int × Bool
  | 0, _ => (0, false)
  | d + 1, k => if maskF k = s then ((k : Int), true) else plenGo s d (k + 1)
/-- The length of a mask. -/
def plenF (s : Bs) : Int × Bool := plenGo s 33 0
theorem rplen_loop {n : Nat} {s : Bs} : ∀ (d m k : Nat), k + d = 33 → d < m → L_ref05_Plen_0 n m s k = some (((plenGo s d k).1, (plenGo s d k).2, ()), ()) := by
  intro d
  induction d with
  | zero =>
    intro m k hk hm
    obtain ⟨m, rfl⟩ : ∃ k, m = k + 1 := ⟨m - 1, by omega⟩
    rw [L_ref05_Plen_0_eq, ifn (by omega)]; rfl
  | succ d ih =>
    intro m k hk hm
    obtain ⟨m, rfl⟩ : ∃ k, m = k + 1 := ⟨m - 1, by omega⟩
    have := ih m (k + 1) (by omega) (by omega)
    rw [show ((k + 1 : Nat) : Int) = (k : Int) + 1 by omega] at this
    rw [L_ref05_Plen_0_eq, ifd (by omega), rmaskOf_is (by omega) (by omega), Option.bind_some, w64 (by omega) (by omega), this, plenGo]
    by_cases h : maskF k = s
    · rw [if_pos (by simp [h]), if_pos h]
    · rw [if_neg (by simpa using h), if_neg h]
theorem rplen_is {s : Bs} : g_ref05_Plen (s, ()) = some (((plenF s).1, (plenF s).2, ()), ()) := by
  show h_ref05_Plen fuel (s, ()) = _
  rw [h_ref05_Plen_eq]
  exact rplen_loop 33 fuel 0 (by omega) (fuel_ge (by omega))
theorem plenGo_cases (s : Bs) : ∀ (d k : Nat), (∃ j : Nat, k ≤ j ∧ j < k + d ∧ plenGo s d k = ((j : Int), true) ∧ maskF j = s) ∨ (plenGo s d k = (0, false) ∧ ∀ j : Nat, k ≤ j → j < k + d → maskF j ≠ s)
  | 0, k => .inr ⟨rfl, fun j h1 h2 => by omega⟩
  | d + 1, k => by
    by_cases h : maskF k = s
    · exact .inl ⟨k, by omega, by omega, by rw [plenGo, if_pos h], h⟩
    · rcases plenGo_cases s d (k + 1) with ⟨j, h1, h2, h3, h4⟩ | ⟨h3, h4⟩
      · exact .inl ⟨j, by omega, by omega, by rw [plenGo, if_neg h, h3], h4⟩
      · refine .inr ⟨by rw [plenGo, if_neg h, h3], fun j h1 h2 => ?_⟩
        by_cases e : j = k
        · rw [e]; exact h
        · exact h4 j (by omega) (by omega)
theorem plenF_cases (s : Bs) : (∃ k : Fin 33, plenF s = ((k.val : Int), true) ∧ maskF k.val = s) ∨ (plenF s = (0, false) ∧ ∀ j : Nat, j < 33 → maskF j ≠ s) := by
  rcases plenGo_cases s 33 0 with ⟨j, _, h2, h3, h4⟩ | ⟨h3, h4⟩
  · exact .inl ⟨⟨j, by omega⟩, h3, h4⟩
  · exact .inr ⟨h3, fun j h => h4 j (by omega) (by omega)⟩
theorem plen_mask : ∀ k : Fin 33, plenF (maskF k.val) = ((k.val : Int), true) := by decide +kernel
theorem len32_pow : ∀ j : Fin 33, g_math_bits_Len32 (2 ^ j.val - 1, ()) = some (((j.val : Int), ()), ()) := by
  intro j
  rw [g_math_bits_Len32_eq]
  revert j
  decide +kernel
theorem u8w (x : Int) : 0 ≤ IntKind.wrap .u8 x ∧ (IntKind.wrap .u8 x).toNat < 256 := by rw [wu8]; omega
theorem len32_any (x : Int) : ∃ r, g_math_bits_Len32 (x, ()) = some ((r, ()), ()) := by
  rw [g_math_bits_Len32_eq]
  split <;> split <;>
  · rw [if_pos (u8w _).1, List.getElem?_eq_getElem (u8w _).2, Option.bind_some]
    exact ⟨_, rfl⟩
theorem argKey : ∀ k : Fin 33, ibits .xor .u32 (4294967295) (ibits .or .u32 (ibits .or .u32 (ibits .or .u32 (ishl .u32 (IntKind.wrap .u32 ((((maskF k.val)[0]?.getD 0).toNat : Nat) : Int)) 24) (ishl .u32 (IntKind.wrap .u32 ((((maskF k.val)[1]?.getD 0).toNat : Nat) : Int)) 16)) (ishl .u32 (IntKind.wrap .u32 ((((maskF k.val)[2]?.getD 0).toNat : Nat) : Int)) 8)) (IntKind.wrap .u32 ((((maskF k.val)[3]?.getD 0).toNat : Nat) : Int))) = 2 ^ (32 - k.val) - 1 := by decide +kernel
theorem plen_is {s : Bs} (h : s.length = 4) : g_mask_Plen (s, ()) = some (((plenF s).1, (plenF s).2, ()), ()) := by
  rw [g_mask_Plen_eq, if_neg (by simp [h]), get_bt (i := 0) (by omega), Option.bind_some, get_bt (i := 1) (by omega), Option.bind_some, get_bt (i := 2) (by omega), Option.bind_some, get_bt (i := 3) (by omega), Option.bind_some]
  rcases plenF_cases s with ⟨k, e, rfl⟩ | ⟨e, hn⟩
  · rw [argKey k, g_math_bits_LeadingZeros32_eq]
    have := len32_pow ⟨32 - k.val, by omega⟩
    dsimp only at this
    rw [this, Option.bind_some, Option.bind_some]
    dsimp only
    have hk := k.isLt
    rw [w64 (by omega) (by omega), show (32 : Int) - ((32 - k.val : Nat) : Int) = k.val by omega, maskOf_is (by omega) (by omega), Option.bind_some]
    dsimp only
    rw [if_neg (by simp), e]
  · rw [g_math_bits_LeadingZeros32_eq]
    obtain ⟨r, hr⟩ := len32_any (ibits .xor .u32 (4294967295) (ibits .or .u32 (ibits .or .u32 (ibits .or .u32 (ishl .u32 (IntKind.wrap .u32 (((s[0]?.getD 0).toNat : Nat) : Int)) 24) (ishl .u32 (IntKind.wrap .u32 (((s[1]?.getD 0).toNat : Nat) : Int)) 16)) (ishl .u32 (IntKind.wrap .u32 (((s[2]?.getD 0).toNat : Nat) : Int)) 8)) (IntKind.wrap .u32 (((s[3]?.getD 0).toNat : Nat) : Int))))
    rw [hr, Option.bind_some, Option.bind_some]
    dsimp only
    generalize IntKind.wrap .i64 (32 - r) = x
    by_cases hx : x < 0 ∨ 32 < x
    · rw [maskOf_bad hx, Option.bind_some]
      dsimp only
      rw [if_pos (by cases s with | nil => simp at h | cons => rfl), e]
    · rw [maskOf_is (by omega) (by omega), Option.bind_some]
      dsimp only
      have : maskF x ≠ s := by
        have := hn x.toNat (by omega)
        rwa [show ((x.toNat : Nat) : Int) = x by omega] at this
      rw [if_pos (by simpa using this), e]
theorem plenF_ok {s : Bs} (h : (plenF s).2 = true) : 0 ≤ (plenF s).1 ∧ (plenF s).1 ≤ 32 ∧ maskF (plenF s).1 = s := by
  rcases plenF_cases s with ⟨k, e, hk⟩ | ⟨e, _⟩
  · rw [e]; have := k.isLt; exact ⟨by simp, by simp; omega, hk⟩
  · rw [e] at h; cases h
theorem plenF_maskF {n : Int} (h : 0 ≤ n) (h' : n ≤ 32) : plenF (maskF n) = (n, true) := by
  obtain ⟨k, rfl⟩ := fin33 h h'
  exact plen_mask k
end Go.VP
