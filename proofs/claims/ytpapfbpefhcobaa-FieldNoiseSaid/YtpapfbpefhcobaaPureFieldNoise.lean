/- Bytes and bits that have no name may be any: the message is the same: for all arguments. -/
import Derived.Test.YtpapfbpefhcobaaFQ3
import Derived.Test.YtpapfbpefhcobaaPBase
import Derived.Test.YtpapfbpefhcobaaPCur
import Derived.Test.YtpapfbpefhcobaaPOct
import Derived.Test.YtpapfbpefhcobaaPTlv
import Derived.Test.YtpapfbpefhcobaaPSub
import Derived.Test.YtpapfbpefhcobaaPMsg
import Derived.Test.YtpapfbpefhcobaaPAddr
import Derived.Test.YtpapfbpefhcobaaPField
import Derived.Test.YtpapfbpefhcobaaPFieldG
import Derived.Test.YtpapfbpefhcobaaPFieldB
import Derived.Test.YtpapfbpefhcobaaPGood
set_option linter.unusedVariables false
set_option linter.unusedSimpArgs false
set_option maxRecDepth 100000
namespace Go.VP
open Go Go.VI
theorem cut_drop {d : Bs} {k p n : Int} (hk : 0 ≤ k) (hp : k ≤ p) (hn : 0 ≤ n) : cut_ d p n = cut_ (d.drop k.toNat) (p - k) n := by
  unfold cut_
  rw [List.take_drop, List.drop_drop, show k.toNat + (p - k + n).toNat = (p + n).toNat by omega, show k.toNat + (p - k).toNat = p.toNat by omega]
theorem fieldG_same {ty : Int} {d e : Bs} (hl : e.length = d.length) (h2 : e.drop 2 = d.drop 2) (h3 : ty ≠ 3) (h4 : ty = 4 → bt e 0 / 128 = bt d 0 / 128) (h5 : ty ≠ 2 → ty ≠ 4 → bt e 0 = bt d 0) : fieldG ty e = fieldG ty d := by
  have c : ∀ p n : Int, 2 ≤ p → 0 ≤ n → cut_ e p n = cut_ d p n := fun p n h hn => by
    rw [cut_drop (d := e) (k := 2) (by omega) h hn, cut_drop (d := d) (k := 2) (by omega) h hn, show (2 : Int).toNat = 2 from rfl, h2]
  have dr : ∀ k : Nat, 2 ≤ k → e.drop k = d.drop k := fun k h => by
    obtain ⟨j, rfl⟩ : ∃ j, k = 2 + j := ⟨k - 2, by omega⟩
    rw [← List.drop_drop, ← List.drop_drop, h2]
  have hb := bt_rng d 0
  unfold fieldG
  rw [hl]
  split
  · rw [c 2 2 (by omega) (by omega), c 4 2 (by omega) (by omega), dr 6 (by omega)]
  · try rw [if_neg h3]
    split
    · rw [c 2 2 (by omega) (by omega), c 4 2 (by omega) (by omega), dr 6 (by omega), h4 (by assumption)]
    · rw [h5 (by assumption) (by assumption)]
      have hn : 0 ≤ lenA (bt d 0) := by unfold lenA; split <;> (try split) <;> (try split) <;> omega
      rw [c 2 2 (by omega) (by omega), c 4 2 (by omega) (by omega), c 6 8 (by omega) (by omega), c 6 _ (by omega) hn, dr _ (by omega)]
theorem noise_end {t : S_api_Tlv} {e : Bs} (ht : 2 ≤ t.type_ ∧ t.type_ ≤ 5) (hd : t.data.length ≤ 255) (he : e.length = t.data.length) (h : fieldG t.type_ e = fieldG t.type_ t.data) :
    ((g_field_Get (t, ())).bind fun r8 => ((g_field_Get ((S_api_Tlv.mk t.type_ t.at_ e), ())).bind fun r9 => ((g_law20_awake ()).bind fun r10 => (if r10.1.1 = true then ((g_ref07_Same (r8.1.1, r9.1.1, ())).bind fun r11 => (if r11.1.1 = true then (if (r8.1.2.1 == r9.1.2.1) = true then some (((r8.1.2.2.1 == r9.1.2.2.1), ()), ()) else some ((false, ()), ())) else some ((false, ()), ()))) else some ((false, ()), ()))))) = some ((true, ()), ()) := by
  obtain ⟨ty, a, d⟩ := t
  dsimp only at *
  have hl : (fieldG ty d).1.list.length ≤ 1000 ∧ (fieldG ty d).1.subs.length ≤ 1000 := by
    rcases fieldG_cases (ty := ty) (d := d) (by omega) (by omega) with ⟨m, e, _, g, _⟩ | ⟨x, e⟩
    · rw [e]; exact ⟨g.few.list, g.few.subs⟩
    · rw [e]; exact ⟨by simp, by simp⟩
  rw [getF_is (by omega) ht, Option.bind_some, getF_is (by omega) ht, Option.bind_some, awake20, Option.bind_some, h]
  dsimp only [trip]
  rw [ift, same_is (by omega) (by omega), eqB_refl, Option.bind_some, ift]
  simp
theorem xor_top {a : UInt8} {n : Int} (h : IntKind.has .u8 n) : ((u8of (ibits .xor .u8 (a.toNat : Int) (ibits .and .u8 n 127))).toNat : Int) / 128 = (a.toNat : Int) / 128 := by
  rw [has8] at h
  obtain ⟨k, rfl⟩ : ∃ k : Nat, n = k := ⟨n.toNat, by omega⟩
  have hk : k < 256 := by omega
  have ha := a.toNat_lt
  have hm : k &&& 127 ≤ 127 := Nat.and_le_right
  have hx : a.toNat ^^^ (k &&& 127) < 256 := Nat.xor_lt_two_pow (n := 8) ha (by omega)
  rw [show (127 : Int) = ((127 : Nat) : Int) from rfl, ib8_and hk (by omega), ib8_xor ha (by omega), u8of_toNat' hx]
  have e : (a.toNat ^^^ (k &&& 127)) >>> 7 = a.toNat >>> 7 := by
    rw [Nat.shiftRight_xor_distrib]
    have : (k &&& 127) >>> 7 = 0 := by rw [Nat.shiftRight_eq_div_pow]; omega
    rw [this, Nat.xor_zero]
  rw [Nat.shiftRight_eq_div_pow, Nat.shiftRight_eq_div_pow] at e
  omega
theorem fieldNoise_pure (x0 : S_api_Tlv) (g0 : Good_api_Tlv x0) (x1 : S_2_uint8) (g1 : Good_2_uint8 x1) : g_law20_FieldNoise (x0, x1, ()) = some ((true, ()), ()) := by
  obtain ⟨gc0, gc1, _⟩ := g1
  rw [g_law20_FieldNoise_eq]
  by_cases h1 : x0.type_ < 2
  · rw [ifd h1, awake20]; rfl
  by_cases h2 : 5 < x0.type_
  · rw [ifn h1, ifd h2, awake20]; rfl
  by_cases h3 : x0.type_ = 3
  · rw [ifn h1, ifn h2, if_pos (by simp [h3]), awake20]; rfl
  by_cases h4 : (x0.data.length : Int) < 6
  · rw [ifn h1, ifn h2, if_neg (by simp [h3]), ifd h4, awake20]; rfl
  by_cases h5 : (255 : Int) < x0.data.length
  · rw [ifn h1, ifn h2, if_neg (by simp [h3]), ifn h4, ifd h5, awake20]; rfl
  rw [ifn h1, ifn h2, if_neg (by simp [h3]), ifn h4, ifn h5]
  have d2 : ∀ (s : Bs) (a : UInt8), (s.set 0 a).drop 2 = s.drop 2 := fun s a => by rw [List.drop_set]; simp
  have d2' : ∀ (s : Bs) (a : UInt8), (s.set 1 a).drop 2 = s.drop 2 := fun s a => by rw [List.drop_set]; simp
  by_cases k2 : x0.type_ = 2
  · rw [if_pos (by simp [k2]), if_pos (by omega), bind_at (by omega), if_pos (by omega), bind_at (by omega), if_pos (by omega), if_pos (by omega), if_pos (by simp; omega), if_pos (by simp; omega)]
    exact noise_end (by omega) (by omega) (by simp) (fieldG_same (by simp) (by rw [d2', d2]) h3 (by omega) (by omega))
  rw [if_neg (by simp [k2])]
  by_cases k4 : x0.type_ = 4
  · rw [if_pos (by simp [k4]), if_pos (by omega), bind_at (by omega), if_pos (by omega), bind_at (by omega), if_pos (by omega), if_pos (by omega), if_pos (by simp; omega), if_pos (by simp; omega)]
    refine noise_end (by omega) (by omega) (by simp) (fieldG_same (by simp) (by rw [d2', d2]) h3 (fun _ => ?_) (by omega))
    have := xor_top (a := x0.data[0]'(by omega)) gc0
    unfold bt
    rw [List.getElem?_set_ne (by decide), List.getElem?_set_self (by omega), List.getElem?_eq_getElem (show 0 < x0.data.length by omega), Option.getD_some, Option.getD_some]
    exact this
  · rw [if_neg (by simp [k4]), if_pos (by omega), bind_at (by omega), if_pos (by omega), if_pos (by omega)]
    refine noise_end (by omega) (by omega) (by simp) (fieldG_same (by simp) (d2' _ _) h3 (by omega) (fun _ _ => ?_))
    unfold bt
    rw [List.getElem?_set_ne (by decide)]
end Go.VP
