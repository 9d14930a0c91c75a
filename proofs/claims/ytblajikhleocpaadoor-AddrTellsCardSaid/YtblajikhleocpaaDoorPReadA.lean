/- The program's reader of addresses. -/
import Derived.Test.YtblajikhleocpaaDoorFQ0
import Derived.Test.YtblajikhleocpaaDoorPBase
import Derived.Test.YtblajikhleocpaaDoorPCur
import Derived.Test.YtblajikhleocpaaDoorPOct
import Derived.Test.YtblajikhleocpaaDoorPNumR
import Derived.Test.YtblajikhleocpaaDoorXM
import Derived.Test.YtblajikhleocpaaDoorFH
import Derived.Test.YtblajikhleocpaaDoorX2
set_option linter.unusedVariables false
set_option linter.unusedSimpArgs false
set_option maxRecDepth 100000
namespace Go.VP
open Go Go.VI
def dvI (b : Nat) (c : UInt8) : Int := match dv b c with | some d => (d : Int) | none => -1
theorem value_is {b : Nat} (h16 : b ≤ 16) (c : UInt8) : g_addr_value ((c.toNat : Int), (b : Int), ()) = some ((dvI b c, ()), ()) := by
  rw [g_addr_value_eq]
  have e : g_strings_IndexByte (([48, 49, 50, 51, 52, 53, 54, 55, 56, 57, 97, 98, 99, 100, 101, 102] : Bs), (c.toNat : Int), ()) = some (((if ix c < 16 then ((ix c : Nat) : Int) else -1), ()), ()) := by
    show x_strings_IndexByte _ = _
    unfold x_strings_IndexByte
    dsimp only
    rw [if_pos (by decide), ← ix_lib, Int.toNat_natCast]
    simp [dg]
  rw [e, Option.bind_some]
  unfold dvI dv
  dsimp only
  by_cases h : ix c < 16
  · rw [if_pos h]
    by_cases hb : ix c < b
    · rw [ifn (by omega), if_pos hb]
    · rw [ifd (by omega), if_neg hb]
  · rw [if_neg h, ifn (by omega), if_neg (by omega)]
def pairN : Option Nat → (Int × Bool × Unit) × Unit
  | some v => (((v : Int), true, ()), ())
  | none => ((0, false, ()), ())
theorem a6num_loop {n b top : Nat} {s : Bs} (hb : 2 ≤ b) (h16 : b ≤ 16) (ht : top ≤ 65536) (hl : s.length ≤ 1000000) : ∀ (d i m x : Nat), i + d = s.length → d < m → x < 65536 →
    L_addr_number_0 n m b top s x i = some (pairN (goN b top (s.drop i) x))
  | 0, i, m, x, h, hm, hx => by
    obtain ⟨m, rfl⟩ : ∃ k, m = k + 1 := ⟨m - 1, by omega⟩
    rw [L_addr_number_0_eq, ifn (by omega), List.drop_of_length_le (by omega)]
    rfl
  | d + 1, i, m, x, h, hm, hx => by
    obtain ⟨m, rfl⟩ : ∃ k, m = k + 1 := ⟨m - 1, by omega⟩
    have hi : i < s.length := by omega
    rw [L_addr_number_0_eq, ifd (by omega), if_pos (by omega), Int.toNat_natCast, bind_at hi, value_is h16, Option.bind_some, List.drop_eq_getElem_cons hi, goN]
    dsimp only
    unfold dvI
    cases hd : dv b s[i] with
    | none => rw [ifd (by decide)]; rfl
    | some d' =>
      dsimp only
      have hd' : d' < b := by
        unfold dv at hd
        split at hd
        · cases hd; assumption
        · cases hd
      have hxb : x * b ≤ x * 16 := Nat.mul_le_mul_left _ h16
      have e1 : ((x : Int) * (b : Int)) = ((x * b : Nat) : Int) := by simp
      rw [ifn (by omega), e1, w64 (x := ((x * b : Nat) : Int)) (by omega) (by omega), w64 (x := ((x * b : Nat) : Int) + d') (by omega) (by omega), w64 (x := (i : Int) + 1) (by omega) (by omega)]
      by_cases htop : top ≤ x * b + d'
      · rw [ifd (by omega), if_pos htop]; rfl
      · rw [ifn (by omega), if_neg htop]
        have := a6num_loop (n := n) hb h16 ht hl d (i + 1) m (x * b + d') (by omega) (by omega) (by omega)
        rw [show ((i + 1 : Nat) : Int) = (i : Int) + 1 by omega, show ((x * b + d' : Nat) : Int) = ((x * b : Nat) : Int) + d' by omega] at this
        exact this
theorem a6number_is {b top : Nat} {s : Bs} (hb : 2 ≤ b) (h16 : b ≤ 16) (h9 : top ≤ b ^ 9) (ht : top ≤ 65536) (ht0 : 0 < top) (hl : s.length ≤ 1000000) : g_addr_number (s, (b : Int), (top : Int), ()) = some (pairN (valM b top s)) := by
  show h_addr_number fuel _ = _
  rw [h_addr_number_eq]
  have hloop : can s → L_addr_number_0 fuel fuel b top s 0 0 = some (pairN (valM b top s)) := fun hc => by
    have := a6num_loop (n := fuel) (s := s) hb h16 ht hl s.length 0 fuel 0 (by omega) (fuel_ge (by omega)) (by omega)
    rw [List.drop_zero, val_of_can hb h16 h9 ht0 hc] at this
    exact this
  rcases s with _ | ⟨c, r⟩
  · rw [if_pos (by decide), val_not_can hb h16 h9 (fun h => h.1 rfl)]; rfl
  · rw [if_neg (by simp)]
    show (if ((c.toNat : Int) == 48) = true then _ else _) = _
    by_cases hc : c = 48
    · subst hc
      rw [if_pos (by decide)]
      by_cases hr : r = []
      · subst hr
        rw [if_neg (by decide)]
        exact hloop ⟨by simp, fun _ => rfl⟩
      · rw [if_pos (by simp [hr]), val_not_can hb h16 h9 (fun h => by have := h.2 rfl; simp [hr] at this)]; rfl
    · have : ¬ (((c.toNat : Int) == 48) = true) := by
        intro e
        have e := eq_of_beq e
        exact hc (u8_eq (by simpa using e))
      rw [if_neg this]
      exact hloop ⟨by simp, fun e => absurd (by simpa using e) hc⟩
/-- The bytes of a number: one, or a pair. -/
def bytesN (two : Bool) (v : Nat) : Bs := if two then [UInt8.ofNat (v / 256), UInt8.ofNat v] else [UInt8.ofNat v]
def rdG (b top : Nat) (two : Bool) : List Bs → Bs → Option Bs
  | [], acc => some acc
  | p :: r, acc => match valM b top p with | none => none | some v => rdG b top two r (acc ++ bytesN two v)
def pairB : Option Bs → (Bs × Bool × Unit) × Unit
  | some v => ((v, true, ()), ())
  | none => (([], false, ()), ())
theorem u8w (v : Nat) : u8of (IntKind.wrap .u8 (v : Int)) = UInt8.ofNat v := by
  rw [wu8]
  apply u8_eq
  rw [u8of_int, if_pos (by omega)]
  simp
theorem a6read_loop {n b top k : Nat} {two : Bool} {ps : List Bs} (hb : 2 ≤ b) (h16 : b ≤ 16) (h9 : top ≤ b ^ 9) (ht : top ≤ 65536) (ht0 : 0 < top) (hk : ((k : Int) == 8) = two) (hl : ∀ p ∈ ps, p.length ≤ 1000000) (h8 : ps.length ≤ 8) :
    ∀ (d i m : Nat) (acc : Bs), i + d = ps.length → d < m → acc.length ≤ 2 * i →
    L_addr_Read_0 n m b top k acc ps (ps.length : Int) i = some (pairB (rdG b top two (ps.drop i) acc))
  | 0, i, m, acc, h, hm, ha => by
    obtain ⟨m, rfl⟩ : ∃ k, m = k + 1 := ⟨m - 1, by omega⟩
    rw [L_addr_Read_0_eq, ifn (by omega), List.drop_of_length_le (by omega)]
    rfl
  | d + 1, i, m, acc, h, hm, ha => by
    obtain ⟨m, rfl⟩ : ∃ k, m = k + 1 := ⟨m - 1, by omega⟩
    have hi : i < ps.length := by omega
    rw [L_addr_Read_0_eq, ifd (by omega), if_pos (by omega), Int.toNat_natCast, bind_at hi, a6number_is hb h16 h9 ht ht0 (hl _ (List.getElem_mem hi)), Option.bind_some, List.drop_eq_getElem_cons hi, rdG]
    cases hv : valM b top ps[i] with
    | none => rfl
    | some v =>
      have hv' := (valM_some hv).1
      have e1 : ishr .i64 ((v : Nat) : Int) 8 = ((v / 256 : Nat) : Int) := by
        show Int.fdiv _ (2 ^ (min 8 64)) = _
        rw [Int.fdiv_eq_ediv_of_nonneg _ (by decide)]
        simp
      unfold pairN
      dsimp only
      rw [ifnt, hk, e1, u8w, u8w, w64 (x := (i : Int) + 1) (by omega) (by omega)]
      have go := fun acc' h' => a6read_loop (n := n) hb h16 h9 ht ht0 hk hl h8 d (i + 1) m acc' (by omega) (by omega) h'
      rw [show ((i + 1 : Nat) : Int) = (i : Int) + 1 by omega] at go
      cases two with
      | false =>
        rw [iff_, if_pos (roomB_of (by simp; omega))]
        exact go _ (by simp; omega)
      | true =>
        rw [ift, if_pos (roomB_of (by simp; omega)), if_pos (roomB_of (by simp; omega)), List.append_assoc]
        exact go _ (by simp; omega)
def readM (s : Bs) : Option Bs :=
  if (splitC 46 s).length = 4 then rdG 10 256 false (splitC 46 s) [] else if (splitC 58 s).length = 8 then rdG 16 65536 true (splitC 58 s) [] else none
theorem a6read_is {s : Bs} (h : s.length ≤ 1000000) : g_addr_Read (s, ()) = some (pairB (readM s)) := by
  show h_addr_Read fuel _ = _
  rw [h_addr_Read_eq]
  have ec : g_strings_Count (s, ([46] : Bs), ()) = some ((((s.count 46 : Nat) : Int), ()), ()) := rfl
  have es : ∀ c, g_strings_Split (s, ([c] : Bs), ()) = some ((splitC c s, ()), ()) := fun c => by
    show x_strings_Split _ = _
    unfold x_strings_Split
    exact if_pos h
  have hlen : (splitC 46 s).length = s.count 46 + 1 := splitC_len 46 s
  rw [ec, Option.bind_some, es, es, Option.bind_some, Option.bind_some]
  dsimp only
  unfold readM
  by_cases h4 : (splitC 46 s).length = 4
  · rw [if_pos (by rw [beq_iff_eq]; omega), if_pos h4, if_neg (by simp [h4])]
    exact a6read_loop (k := 4) (b := 10) (top := 256) (two := false) (n := fuel) (by decide) (by decide) (by decide) (by decide) (by decide) (by decide) (fun p hp => Nat.le_trans (splitC_small 46 s p hp) h) (by omega) 4 0 fuel [] (by omega) (fuel_ge (by decide)) (by simp)
  · rw [if_neg (by rw [beq_iff_eq]; omega), if_neg h4]
    by_cases h8 : (splitC 58 s).length = 8
    · rw [if_pos h8, if_neg (by simp [h8])]
      exact a6read_loop (k := 8) (b := 16) (top := 65536) (two := true) (n := fuel) (by decide) (by decide) (by decide) (by decide) (by decide) (by decide) (fun p hp => Nat.le_trans (splitC_small 58 s p hp) h) (by omega) 8 0 fuel [] (by omega) (fuel_ge (by decide)) (by simp)
    · rw [if_neg h8, if_pos (by simp; omega)]; rfl
end Go.VP
