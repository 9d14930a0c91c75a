/- TLVs and Subs: what the program and the document make of them. -/
import Derived.Test.YtabekdfijifnfaaQFQ1
import Derived.Test.YtabekdfijifnfaaQFQ3
import Derived.Test.YtabekdfijifnfaaQFQ5
import Derived.Test.YtabekdfijifnfaaQFQ9
import Derived.Test.YtabekdfijifnfaaQPBase
import Derived.Test.YtabekdfijifnfaaQPCur
set_option linter.unusedVariables false
set_option linter.unusedSimpArgs false
set_option maxRecDepth 100000
namespace Go.VP
open Go Go.VI
abbrev Tlv := S_api_Tlv
abbrev Sub := S_api_Sub
theorem tlvBo : bo_api_Tlv ≤ 100 := Nat.le_of_ble_eq_true (by kernel_rfl)
theorem subBo : bo_api_Sub ≤ 100 := Nat.le_of_ble_eq_true (by kernel_rfl)
theorem room_mul {a b : Nat} (h : a ≤ 300000000000) (hb : b ≤ 100) : roomB (a * b) = true := by
  refine roomB_of ?_
  have : a * b ≤ 300000000000 * 100 := Nat.mul_le_mul h hb
  omega
def tput (t : Int) (d : Bs) : Bs × Bool := if 1 ≤ t ∧ t ≤ 255 ∧ d.length ≤ 255 then (u8of t :: u8of d.length :: d, true) else ([], false)
theorem u8of_emod (n : Int) (h : 0 ≤ n) : u8of (n % 256) = u8of n := by
  apply u8_eq; rw [u8of_int, u8of_int, if_pos (by omega), if_pos h]; omega
theorem tput_is (t : Int) (d : Bs) : g_frame_Put (t, d, ()) = some (((tput t d).1, (tput t d).2, ()), ()) := by
  rw [g_frame_Put_eq]
  unfold tput
  by_cases h1 : t < 1
  · rw [if_pos (by simpa using h1), if_neg (by omega)]
  · rw [if_neg (by simpa using h1)]
    by_cases h2 : 255 < t
    · rw [if_pos (by simpa using h2), if_neg (by omega)]
    · rw [if_neg (by simpa using h2)]
      by_cases h3 : (255 : Int) < d.length
      · rw [if_pos (by simpa using h3), if_neg (by omega)]
      · have hh : 1 ≤ t ∧ t ≤ 255 ∧ d.length ≤ 255 := by omega
        rw [if_neg (by simpa using h3), if_pos hh, wu8, wu8, u8of_emod _ (by omega), u8of_emod _ (by omega), if_pos (maxB_of (by simp; omega))]
        rfl
theorem rtput_is (t : Int) (d : Bs) : g_ref18_Put (t, d, ()) = some (((tput t d).1, (tput t d).2, ()), ()) := by
  rw [g_ref18_Put_eq]
  have := tput_is t d
  rw [g_frame_Put_eq] at this
  exact this
def spl (p : Int) (s : Bs) : Except Int (List Tlv) :=
  match s with
  | [] => .ok []
  | t :: r =>
    if t = 0 then (spl (p + 1) r).map (⟨0, p, []⟩ :: ·)
    else match r with
      | [] => .error p
      | n :: d => if d.length < n.toNat then .error p else (spl (p + 2 + n.toNat) (d.drop n.toNat)).map (⟨t.toNat, p, d.take n.toNat⟩ :: ·)
termination_by s.length
decreasing_by all_goals (simp_wf; try omega)
def splOut (acc : List Tlv) : Except Int (List Tlv) → List Tlv × Int × Int
  | .ok l => (acc ++ l, 0, 0)
  | .error q => ([], q, 2)
theorem splOut_map (acc : List Tlv) (x : Tlv) (r : Except Int (List Tlv)) : splOut acc (r.map (x :: ·)) = splOut (acc ++ [x]) r := by
  cases r <;> simp [splOut, Except.map]
abbrev trip {α β γ : Type} (x : α × β × γ) : α × β × γ × Unit := (x.1, x.2.1, x.2.2, ())
theorem spl_nil (p : Int) : spl p [] = .ok [] := by rw [spl.eq_def]
theorem spl_zero {p : Int} {r : Bs} : spl p (0 :: r) = (spl (p + 1) r).map (⟨0, p, []⟩ :: ·) := by rw [spl.eq_def]; rfl
theorem spl_one {p : Int} {t : UInt8} (h : t ≠ 0) : spl p [t] = .error p := by rw [spl.eq_def]; simp [h]
theorem spl_bad {p : Int} {t n : UInt8} {d : Bs} (h : t ≠ 0) (h2 : d.length < n.toNat) : spl p (t :: n :: d) = .error p := by rw [spl.eq_def]; simp [h, h2]
theorem spl_all {p : Int} {t n : UInt8} {d : Bs} (h : t ≠ 0) (h2 : n.toNat ≤ d.length) : spl p (t :: n :: d) = (spl (p + 2 + n.toNat) (d.drop n.toNat)).map (⟨t.toNat, p, d.take n.toNat⟩ :: ·) := by
  rw [spl.eq_def]; simp only [h, if_false]; rw [if_neg (by omega)]
theorem drop2 {s : Bs} {p : Nat} (h : p + 1 < s.length) : s.drop p = s[p] :: s[p + 1] :: s.drop (p + 2) := by
  rw [List.drop_eq_getElem_cons (by omega), List.drop_eq_getElem_cons (i := p + 1) (by omega)]
theorem rsplit_loop {s : Bs} {base : Int} {n : Nat} (hs : s.length ≤ 1000000000) (hb : 0 ≤ base ∧ base ≤ 1152921504606846976) : ∀ (d m p : Nat) (acc : List Tlv), p ≤ s.length → s.length - p ≤ d → d < m → acc.length ≤ p →
    L_ref18_Split_0 n m s base acc p = some (trip (splOut acc (spl (base + p) (s.drop p))), ()) := by
  intro d
  induction d with
  | zero =>
    intro m p acc h1 h2 hk ha
    obtain ⟨m, rfl⟩ : ∃ k, m = k + 1 := ⟨m - 1, by omega⟩
    rw [L_ref18_Split_0_eq, if_neg (by simp; omega), List.drop_eq_nil_of_le (by omega), spl_nil]
    simp [splOut, trip]
  | succ d ih =>
    intro m p acc h1 h2 hk ha
    obtain ⟨m, rfl⟩ : ∃ k, m = k + 1 := ⟨m - 1, by omega⟩
    rw [L_ref18_Split_0_eq]
    by_cases hp : p < s.length
    · have hroom : ∀ x : Tlv, roomB ((acc.length + [x].length) * bo_api_Tlv) = true := fun x => room_mul (by simp; omega) tlvBo
      rw [if_pos (by simp; omega), if_pos (by omega), Int.toNat_natCast, bind_at hp]
      by_cases hz : s[p] = 0
      · rw [if_pos (by rw [hz]; rfl), if_pos (hroom _), w64 (x := base + p) (by omega) (by omega), w64 (x := (p : Int) + 1) (by omega) (by omega), List.drop_eq_getElem_cons hp, hz, spl_zero, splOut_map]
        have := ih m (p + 1) (acc ++ [⟨0, base + p, []⟩]) (by omega) (by omega) (by omega) (by simp; omega)
        rw [show ((p + 1 : Nat) : Int) = (p : Int) + 1 by omega] at this
        rw [this, Int.add_assoc]
      · have hz' : ¬ (((s[p].toNat : Nat) : Int) == 0) = true := by
          simp
          intro h2; exact hz (UInt8.toNat.inj h2)
        rw [if_neg hz', w64 (x := (s.length : Int) - p) (by omega) (by omega), w64 (x := base + p) (by omega) (by omega), w64 (x := (p : Int) + 1) (by omega) (by omega), w64 (x := (p : Int) + 2) (by omega) (by omega)]
        by_cases h3 : p + 1 = s.length
        · rw [if_pos (by simp; omega), List.drop_eq_getElem_cons hp, List.drop_eq_nil_of_le (by omega), spl_one hz]
          simp [splOut, trip]
        · have h4 : p + 1 < s.length := by omega
          rw [if_neg (by simp; omega), if_pos (by omega), show ((p : Int) + 1).toNat = p + 1 by omega, bind_at h4, bind_at h4, bind_at hp, w64n, w64n, w64 (x := (s.length : Int) - p - 2) (by omega) (by omega), drop2 h4]
          have hn := s[p + 1].toNat_lt
          by_cases h5 : p + 2 + s[p + 1].toNat ≤ s.length
          · rw [if_neg (by simp; omega), if_pos (by omega), if_pos (by omega), w64 (x := (p : Int) + 2 + (s[p + 1].toNat : Int)) (by omega) (by omega), if_pos (by omega), if_pos (hroom _), spl_all hz (by simp; omega), splOut_map]
            have := ih m (p + 2 + s[p + 1].toNat) (acc ++ [⟨s[p].toNat, base + p, (s.drop (p + 2)).take s[p + 1].toNat⟩]) (by omega) (by omega) (by omega) (by simp; omega)
            rw [List.drop_drop]
            have e3 : (s.take ((p : Int) + 2 + (s[p + 1].toNat : Int)).toNat).drop ((p : Int) + 2).toNat = (s.drop (p + 2)).take s[p + 1].toNat := by
              rw [show ((p : Int) + 2 + (s[p + 1].toNat : Int)).toNat = p + 2 + s[p + 1].toNat by omega, show ((p : Int) + 2).toNat = p + 2 by omega, List.take_add, List.drop_append_of_le_length (by simp; omega)]
              simp
            rw [e3, show (p : Int) + 2 + (s[p + 1].toNat : Int) = ((p + 2 + s[p + 1].toNat : Nat) : Int) by omega, this]
            congr 4
            congr 1
            omega
          · rw [if_pos (by simp; omega), spl_bad hz (by simp; omega)]
            simp [splOut, trip]
    · rw [if_neg (by simp; omega), List.drop_eq_nil_of_le (by omega), spl_nil]
      simp [splOut, trip]
theorem rsplit_is {s : Bs} {base : Int} (hs : s.length ≤ 1000000000) (hb : 0 ≤ base ∧ base ≤ 1152921504606846976) : g_ref18_Split (s, base, ()) = some (trip (splOut [] (spl base s)), ()) := by
  show h_ref18_Split fuel _ = _
  rw [h_ref18_Split_eq]
  have := rsplit_loop (n := fuel) hs hb s.length fuel 0 [] (by omega) (by omega) (fuel_ge (by omega)) (by simp)
  simpa using this
end Go.VP
