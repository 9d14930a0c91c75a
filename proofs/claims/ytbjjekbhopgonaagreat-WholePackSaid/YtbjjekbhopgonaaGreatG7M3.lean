import Derived.Test.YtbjjekbhopgonaaGreatG7FQ3
import Derived.Test.YtbjjekbhopgonaaGreatG7FH
import Derived.Test.YtbjjekbhopgonaaGreatG7M0
import Derived.Test.YtbjjekbhopgonaaGreatG7M2
import Derived.Test.YtbjjekbhopgonaaGreatG7M1
import Derived.Test.YtbjjekbhopgonaaGreatG7FQ5
import Derived.Test.YtbjjekbhopgonaaGreatG7FQ7
import Derived.Test.YtbjjekbhopgonaaGreatG7FGood
import Derived.Test.YtbjjekbhopgonaaGreatG7FQ15
import Derived.Test.YtbjjekbhopgonaaGreatG7FQ4
import Derived.Test.YtbjjekbhopgonaaGreatG7FQ16
set_option linter.unusedVariables false
set_option linter.unusedSimpArgs false
set_option maxRecDepth 100000
namespace Go.VP
open Go Go.VI
def zM : Msg := S_api_Msg.mk 0 0 0 [] 0 0 [] 0 0 [] 0 [] 0 0 0 0 0 0 0 [] [] [] 0 [] []
theorem ib8_or {a b : Nat} (ha : a < 256) (hb : b < 256) : ibits .or .u8 (a : Int) (b : Int) = ((a ||| b : Nat) : Int) := by
  unfold ibits
  show IntKind.wrap .u8 (((BitVec.ofInt 8 (a : Int) ||| BitVec.ofInt 8 (b : Int)).toNat : Nat) : Int) = _
  have h : a ||| b < 256 := Nat.or_lt_two_pow (n := 8) ha hb
  rw [BitVec.toNat_or, BitVec.ofInt_natCast, BitVec.ofInt_natCast, BitVec.toNat_ofNat, BitVec.toNat_ofNat, Nat.mod_eq_of_lt ha, Nat.mod_eq_of_lt hb, wu8]
  omega
theorem andor {x y : Int} {k : Nat} (hk : k ≤ 8) (hx : 0 ≤ x ∧ x < 256) (hy : 0 ≤ y ∧ y < 256) : ibits .or .u8 (ibits .and .u8 x ((2 ^ k - 1 : Nat) : Int)) y = 0 ↔ (x % 2 ^ k = 0 ∧ y = 0) := by
  obtain ⟨a, rfl⟩ : ∃ a : Nat, x = a := ⟨x.toNat, by omega⟩
  obtain ⟨b, rfl⟩ : ∃ b : Nat, y = b := ⟨y.toNat, by omega⟩
  have hp : 2 ^ k ≤ 2 ^ 8 := Nat.pow_le_pow_right (by decide) hk
  have hp0 : 0 < 2 ^ k := Nat.pow_pos (by decide)
  have h1 := Nat.mod_lt a hp0
  rw [ib8_and (by omega) (by omega), Nat.and_two_pow_sub_one_eq_mod, ib8_or (by omega) (by omega)]
  have e : ((a : Int) % 2 ^ k) = ((a % 2 ^ k : Nat) : Int) := by simp
  rw [e]
  constructor
  · intro h
    have h0 : a % 2 ^ k ||| b = 0 := by omega
    rw [Nat.or_eq_zero_iff] at h0
    omega
  · intro h
    have e1 : a % 2 ^ k = 0 := by omega
    have e2 : b = 0 := by omega
    rw [e1, e2]; rfl
theorem and224 : ∀ y : Fin 256, (y.val &&& 224 = 0) ↔ y.val < 32 := by decide +kernel
theorem andor2 {x y : Int} (hx : 0 ≤ x ∧ x < 256) (hy : 0 ≤ y ∧ y < 256) : ibits .or .u8 (ibits .and .u8 x 63) (ibits .and .u8 y 224) = 0 ↔ (x % 64 = 0 ∧ y < 32) := by
  obtain ⟨b, rfl⟩ : ∃ b : Nat, y = b := ⟨y.toNat, by omega⟩
  have h2 : ibits .and .u8 (b : Int) 224 = ((b &&& 224 : Nat) : Int) := ib8_and (b := 224) (by omega) (by omega)
  have h3 : b &&& 224 ≤ b := Nat.and_le_left
  have := andor (x := x) (y := ((b &&& 224 : Nat) : Int)) (k := 6) (by omega) hx (by omega)
  rw [h2]
  have h4 := and224 ⟨b, by omega⟩
  dsimp only at h4
  rw [show ((2 ^ 6 - 1 : Nat) : Int) = 63 from rfl, show (2 : Int) ^ 6 = 64 from rfl] at this
  rw [this]
  omega
theorem shr_u8 {x : Int} {k : Nat} (hk : k ≤ 8) : ishr .u8 x (k : Int) = x / 2 ^ k := by
  unfold ishr
  rw [show min (k : Int).toNat IntKind.u8.bits = k by simp only [IntKind.bits]; omega]
  exact Int.fdiv_eq_ediv_of_nonneg _ (Int.pow_nonneg (by decide))
def rqMsg (b : Bs) : Msg := S_api_Msg.mk 3 0 0 [] 0 0 [] 0 0 [] 0 [] (num (cut_ b 12 4)) (num (cut_ b 20 4)) 0 (bt b 1 / 8) (bt b 3) (num (cut_ b 4 4)) 0 (cut_ b 8 4) (cut_ b 16 4) [] 0 [] (getE (b.drop 24)).1
def tailE (b : Bs) (p : Nat) (m : Msg) : Msg × Int × Int := if (getE (b.drop p)).2.2 ≠ 0 then (zM, p + (getE (b.drop p)).2.1, (getE (b.drop p)).2.2) else (m, 0, 0)
def rqGet (b : Bs) : Msg × Int × Int :=
  if b.length < 24 then (zM, b.length, 2) else if ¬ (bt b 1 % 8 = 0 ∧ bt b 2 = 0) then (zM, 1, 5) else tailE b 24 (rqMsg b)
theorem rqget_is {b : Bs} (hb : b.length ≤ 1000000) : g_rreq_Get (b, ()) = some (trip (rqGet b), ()) := by
  rw [g_rreq_Get_eq]
  unfold rqGet
  refine dq_step (fun h => by rw [if_pos (by omega)]; rfl) (fun h => ?_)
  have w0 : WfC b 0 b.length := .whole (by omega)
  have w1 := w0.fwd (n := 4) (by omega) (by omega)
  have w2 := w1.fwd (n := 4) (by omega) (by omega)
  have w3 := w2.fwd (n := 4) (by omega) (by omega)
  have w4 := w3.fwd (n := 4) (by omega) (by omega)
  have w5 := w4.fwd (n := 4) (by omega) (by omega)
  rw [if_neg (show ¬ b.length < 24 by omega), get_bt (i := 1) (by omega), get_bt (i := 2) (by omega), get_bt (i := 3) (by omega)]
  simp only [Option.bind_some]
  have e1 : (((b[1]?.getD 0).toNat : Nat) : Int) = bt b 1 := rfl
  have e2 : (((b[2]?.getD 0).toNat : Nat) : Int) = bt b 2 := rfl
  have e3 : (((b[3]?.getD 0).toNat : Nat) : Int) = bt b 3 := rfl
  rw [e1, e2, e3]
  have hx := bt_rng b 1
  have hy := bt_rng b 2
  have hz := bt_rng b 3
  have ao := andor (k := 3) (by omega) hx hy
  rw [show ((2 ^ 3 - 1 : Nat) : Int) = 7 from rfl, show (2 : Int) ^ 3 = 8 from rfl] at ao
  refine ne_step (fun q => ?_) (fun q => ?_)
  · rw [if_pos (fun c => q (ao.2 c))]; rfl
  rw [if_neg (show ¬ ¬ (bt b 1 % 8 = 0 ∧ bt b 2 = 0) from fun c => c (ao.1 q)), if_pos (by omega), eget_is (by rw [List.length_drop]; omega), Option.bind_some]
  have hp := getE_place (b.drop 24)
  rw [List.length_drop] at hp
  unfold tailE
  refine ne_step (fun q2 => ?_) (fun q2 => ?_)
  · rw [if_pos q2]
    dsimp only at q2 ⊢
    rw [w64 (by omega) (by omega), Int.add_comm]; rfl
  rw [if_neg (show ¬ (getE (b.drop 24)).2.2 ≠ 0 from fun c => c q2), new_is, Option.bind_some]
  dsimp only
  rw [text_ok w0 (by omega) (by omega), Option.bind_some]
  dsimp only
  rw [num_ok w1 (by omega) (by omega) (by omega), Option.bind_some]
  dsimp only
  rw [text_ok w2 (by omega) (by omega), Option.bind_some]
  dsimp only
  rw [num_ok w3 (by omega) (by omega) (by omega), Option.bind_some]
  dsimp only
  rw [text_ok w4 (by omega) (by omega), Option.bind_some]
  dsimp only
  rw [num_ok w5 (by omega) (by omega) (by omega), Option.bind_some]
  have hs := shr_u8 (x := bt b 1) (k := 3) (by omega)
  rw [show ((3 : Nat) : Int) = 3 from rfl, show (2 : Int) ^ 3 = 8 from rfl] at hs
  rw [hs, w64 (by omega) (by omega), w64 (by omega) (by omega)]
  rfl
def rpMsg (b : Bs) : Msg := S_api_Msg.mk 4 0 0 [] 0 0 [] (bt b 2) 0 [] 0 [] (num (cut_ b 8 4)) 0 (num (cut_ b 16 4)) (bt b 1 / 64) (bt b 3) 0 0 (cut_ b 4 4) (cut_ b 12 4) [] 0 [] (getE (b.drop 20)).1
def akMsg (b : Bs) : Msg := S_api_Msg.mk 6 0 0 [] 0 0 [] 0 0 [] 0 [] 0 0 0 0 0 0 0 [] [] [] 0 [] (getE (b.drop 2)).1
def rpGet (b : Bs) : Msg × Int × Int :=
  if bt b 0 = 4 then (if b.length < 2 then (zM, b.length, 2) else if ¬ bt b 1 = 0 then (zM, 1, 5) else tailE b 2 (akMsg b))
  else if b.length < 20 then (zM, b.length, 2) else if ¬ (bt b 1 % 64 = 0 ∧ bt b 2 < 32) then (zM, 1, 5) else tailE b 20 (rpMsg b)
theorem ack_is {b : Bs} (hb : b.length ≤ 1000000) : g_rrep_ack (b, ()) = some (trip (if b.length < 2 then (zM, (b.length : Int), (2 : Int)) else if ¬ bt b 1 = 0 then (zM, 1, 5) else tailE b 2 (akMsg b)), ()) := by
  rw [g_rrep_ack_eq]
  refine dq_step (fun h => by rw [if_pos (by omega)]; rfl) (fun h => ?_)
  rw [if_neg (show ¬ b.length < 2 by omega), get_bt (i := 1) (by omega), Option.bind_some]
  refine ne_step (fun q => ?_) (fun q => ?_)
  · rw [if_pos (show ¬ bt b 1 = 0 from q)]; rfl
  rw [if_neg (show ¬ ¬ bt b 1 = 0 from fun c => c q), if_pos (by omega), eget_is (by rw [List.length_drop]; omega), Option.bind_some]
  have hp := getE_place (b.drop 2)
  rw [List.length_drop] at hp
  unfold tailE
  refine ne_step (fun q2 => ?_) (fun q2 => ?_)
  · rw [if_pos q2]
    dsimp only at q2 ⊢
    rw [w64 (by omega) (by omega), Int.add_comm]; rfl
  · rw [if_neg (show ¬ (getE (b.drop 2)).2.2 ≠ 0 from fun c => c q2)]; rfl
theorem rpget_is {b : Bs} (h0 : 1 ≤ b.length) (hb : b.length ≤ 1000000) : g_rrep_Get (b, ()) = some (trip (rpGet b), ()) := by
  rw [g_rrep_Get_eq]
  unfold rpGet
  have hne : b ≠ [] := by intro q; rw [q] at h0; simp at h0
  rw [if_pos (by simp [hne]), get_bt (i := 0) (by omega), Option.bind_some]
  refine bq_step (fun q => ?_) (fun q => ?_)
  · rw [if_pos (show bt b 0 = 4 from q), ack_is hb]; rfl
  rw [if_neg (show ¬ bt b 0 = 4 from q)]
  refine dq_step (fun h => by rw [if_pos (by omega)]; rfl) (fun h => ?_)
  have w0 : WfC b 0 b.length := .whole (by omega)
  have w1 := w0.fwd (n := 4) (by omega) (by omega)
  have w2 := w1.fwd (n := 4) (by omega) (by omega)
  have w3 := w2.fwd (n := 4) (by omega) (by omega)
  have w4 := w3.fwd (n := 4) (by omega) (by omega)
  rw [if_neg (show ¬ b.length < 20 by omega), get_bt (i := 1) (by omega), get_bt (i := 2) (by omega), get_bt (i := 3) (by omega)]
  simp only [Option.bind_some]
  have e1 : (((b[1]?.getD 0).toNat : Nat) : Int) = bt b 1 := rfl
  have e2 : (((b[2]?.getD 0).toNat : Nat) : Int) = bt b 2 := rfl
  have e3 : (((b[3]?.getD 0).toNat : Nat) : Int) = bt b 3 := rfl
  rw [e1, e2, e3]
  have hx := bt_rng b 1
  have hy := bt_rng b 2
  have hz := bt_rng b 3
  have ao := andor2 hx hy
  refine ne_step (fun q => ?_) (fun q => ?_)
  · rw [if_pos (fun c => q (ao.2 c))]; rfl
  rw [if_neg (show ¬ ¬ (bt b 1 % 64 = 0 ∧ bt b 2 < 32) from fun c => c (ao.1 q)), if_pos (by omega), eget_is (by rw [List.length_drop]; omega), Option.bind_some]
  have hp := getE_place (b.drop 20)
  rw [List.length_drop] at hp
  unfold tailE
  refine ne_step (fun q2 => ?_) (fun q2 => ?_)
  · rw [if_pos q2]
    dsimp only at q2 ⊢
    rw [w64 (by omega) (by omega), Int.add_comm]; rfl
  rw [if_neg (show ¬ (getE (b.drop 20)).2.2 ≠ 0 from fun c => c q2), new_is, Option.bind_some]
  dsimp only
  rw [text_ok w0 (by omega) (by omega), Option.bind_some]
  dsimp only
  rw [text_ok w1 (by omega) (by omega), Option.bind_some]
  dsimp only
  rw [num_ok w2 (by omega) (by omega) (by omega), Option.bind_some]
  dsimp only
  rw [text_ok w3 (by omega) (by omega), Option.bind_some]
  dsimp only
  rw [num_ok w4 (by omega) (by omega) (by omega), Option.bind_some]
  have hs := shr_u8 (x := bt b 1) (k := 6) (by omega)
  rw [show ((6 : Nat) : Int) = 6 from rfl, show (2 : Int) ^ 6 = 64 from rfl] at hs
  rw [hs, w64 (by omega) (by omega), w64 (by omega) (by omega), w64 (by omega) (by omega)]
  rfl
end Go.VP
set_option linter.unusedVariables false
set_option linter.unusedSimpArgs false
set_option maxRecDepth 100000
namespace Go.VP
open Go Go.VI
def destG (b : Bs) : Nat → Nat → List Dest
  | 0, _ => []
  | k + 1, p => ⟨cut_ b p 4, num (cut_ b ((p : Int) + 4) 4)⟩ :: destG b k (p + 8)
def reMsg (b : Bs) : Msg := S_api_Msg.mk 5 0 0 [] 0 0 [] 0 0 [] 0 [] 0 0 0 (bt b 1 / 128) 0 0 0 [] [] (destG b (bt b 3).toNat 4) 0 [] (getE (b.drop (4 + 8 * (bt b 3).toNat))).1
def reGet (b : Bs) : Msg × Int × Int :=
  if b.length < 4 then (zM, b.length, 2) else if ¬ (bt b 1 % 128 = 0 ∧ bt b 2 = 0) then (zM, 1, 5) else if bt b 3 = 0 then (zM, 3, 8)
  else if b.length < 4 + 8 * (bt b 3).toNat then (zM, b.length, 2) else tailE b (4 + 8 * (bt b 3).toNat) (reMsg b)
theorem destBo : bo_api_Dest ≤ 100 := Nat.le_of_ble_eq_true (by kernel_rfl)
theorem reget_bad {n : Nat} {b : Bs} {fl c : Int} (hb : b.length ≤ 1000000) (hc : c ≤ 255) : ∀ (d m i : Nat) (p : Int) (bad : Bool) (acc : List Dest), (i : Int) + d = c → d < m → WfC b p b.length → (bad = true ∨ (b.length : Int) < p + 8 * d) → acc.length ≤ i →
    L_rerr_Get_0 n m b fl acc b p b.length bad c i = some (trip (zM, (b.length : Int), (2 : Int)), ()) := by
  intro d
  induction d with
  | zero =>
    intro m i p bad acc hd hm w hbad ha
    obtain ⟨m, rfl⟩ : ∃ j, m = j + 1 := ⟨m - 1, by omega⟩
    have hw := w.hi
    have : bad = true := hbad.resolve_right (by omega)
    rw [L_rerr_Get_0_eq, ifn (by omega), this]; try rfl
  | succ d ih =>
    intro m i p bad acc hd hm w hbad ha
    obtain ⟨m, rfl⟩ : ∃ j, m = j + 1 := ⟨m - 1, by omega⟩
    rw [L_rerr_Get_0_eq, ifd (by omega), w64 (by omega) (by omega)]
    have go : ∀ (q : Int) (bd : Bool) (x : Dest), WfC b q b.length → (bd = true ∨ (b.length : Int) < q + 8 * d) → (if roomB ((acc.length + [x].length) * bo_api_Dest) = true then L_rerr_Get_0 n m b fl (acc ++ [x]) b q b.length bd c ((i : Int) + 1) else none) = some (trip (zM, (b.length : Int), (2 : Int)), ()) := by
      intro q bd x wq hq
      rw [if_pos (room_mul (by simp; omega) destBo)]
      have := ih m (i + 1) q bd (acc ++ [x]) (by omega) (by omega) wq hq (by simp; omega)
      rw [show ((i + 1 : Nat) : Int) = (i : Int) + 1 by omega] at this
      exact this
    by_cases h1 : bad = true ∨ (b.length : Int) < p + 4
    · rw [text_bad w (h1.imp id .inr), Option.bind_some]
      dsimp only
      rw [num_bad w (by omega) (by omega) (.inl rfl), Option.bind_some]
      exact go p true _ w (.inl rfl)
    · have hbf : bad = false := by cases bad <;> simp_all
      subst hbf
      have w1 := w.fwd (n := 4) (by omega) (by omega)
      rw [text_ok w (by omega) (by omega), Option.bind_some]
      dsimp only
      by_cases h2 : (b.length : Int) < p + 4 + 4
      · rw [num_bad w1 (by omega) (by omega) (.inr (by omega)), Option.bind_some]
        exact go (p + 4) true _ w1 (.inl rfl)
      · rw [num_ok w1 (by omega) (by omega) (by omega), Option.bind_some]
        exact go (p + 4 + 4) false _ (w1.fwd (n := 4) (by omega) (by omega)) (.inr (by have := hbad.resolve_left (by simp); omega))
theorem tail_rng (b : Bs) (p : Nat) (h : p ≤ b.length) : 0 ≤ (getE (b.drop p)).2.1 ∧ (getE (b.drop p)).2.1 ≤ b.length := by
  have := getE_place (b.drop p)
  rw [List.length_drop] at this
  omega
def reTail (b : Bs) (fl : Int) (l : List Dest) (p : Nat) : Msg × Int × Int := tailE b p (S_api_Msg.mk 5 0 0 [] 0 0 [] 0 0 [] 0 [] 0 0 0 fl 0 0 0 [] [] l 0 [] (getE (b.drop p)).1)
theorem reget_good {n : Nat} {b : Bs} {fl c : Int} (hb : b.length ≤ 1000000) (hc : c ≤ 255) : ∀ (d m i p : Nat) (acc : List Dest), (i : Int) + d = c → d < m → p + 8 * d ≤ b.length → acc.length ≤ i →
    L_rerr_Get_0 n m b fl acc b p b.length false c i = some (trip (reTail b fl (acc ++ destG b d p) (p + 8 * d)), ()) := by
  intro d
  induction d with
  | zero =>
    intro m i p acc hd hm hp ha
    obtain ⟨m, rfl⟩ : ∃ j, m = j + 1 := ⟨m - 1, by omega⟩
    have ht := tail_rng b p (by omega)
    rw [L_rerr_Get_0_eq, ifn (by omega), iff_, if_pos (by omega), Int.toNat_natCast, eget_is (by rw [List.length_drop]; omega), Option.bind_some, destG, List.append_nil]
    unfold reTail tailE
    rw [Nat.mul_zero, Nat.add_zero]
    refine ne_step (fun q2 => ?_) (fun q2 => ?_)
    · rw [if_pos q2]
      dsimp only at q2 ⊢
      rw [w64 (by omega) (by omega)]; try rfl
    · rw [if_neg (fun c => c q2)]; try rfl
  | succ d ih =>
    intro m i p acc hd hm hp ha
    obtain ⟨m, rfl⟩ : ∃ j, m = j + 1 := ⟨m - 1, by omega⟩
    have w : WfC b p b.length := ⟨by omega, by omega, by omega, by omega⟩
    have w1 := w.fwd (n := 4) (by omega) (by omega)
    have := ih m (i + 1) (p + 8) (acc ++ [⟨cut_ b p 4, num (cut_ b ((p : Int) + 4) 4)⟩]) (by omega) (by omega) (by omega) (by simp; omega)
    rw [show ((i + 1 : Nat) : Int) = (i : Int) + 1 by omega, show ((p + 8 : Nat) : Int) = (p : Int) + 4 + 4 by omega, show p + 8 + 8 * d = p + 8 * (d + 1) by omega] at this
    rw [L_rerr_Get_0_eq, ifd (by omega), w64 (by omega) (by omega), text_ok w (by omega) (by omega), Option.bind_some]
    dsimp only
    rw [num_ok w1 (by omega) (by omega) (by omega), Option.bind_some]
    dsimp only
    rw [if_pos (room_mul (by simp; omega) destBo), this, destG]
    simp only [List.append_assoc, List.singleton_append]
theorem reget2_is {b : Bs} (hb : b.length ≤ 1000000) : g_rerr_Get (b, ()) = some (trip (reGet b), ()) := by
  show h_rerr_Get fuel _ = _
  rw [h_rerr_Get_eq]
  unfold reGet
  refine dq_step (fun h => by rw [if_pos (by omega)]; try rfl) (fun h => ?_)
  rw [if_neg (show ¬ b.length < 4 by omega), get_bt (i := 1) (by omega), Option.bind_some, get_bt (i := 2) (by omega), Option.bind_some, get_bt (i := 3) (by omega)]
  have e1 : (((b[1]?.getD 0).toNat : Nat) : Int) = bt b 1 := rfl
  have e2 : (((b[2]?.getD 0).toNat : Nat) : Int) = bt b 2 := rfl
  have e3 : (((b[3]?.getD 0).toNat : Nat) : Int) = bt b 3 := rfl
  rw [e1, e2]
  have hx := bt_rng b 1
  have hy := bt_rng b 2
  have hz := bt_rng b 3
  have ao := andor (k := 7) (by omega) hx hy
  rw [show ((2 ^ 7 - 1 : Nat) : Int) = 127 from rfl, show (2 : Int) ^ 7 = 128 from rfl] at ao
  refine ne_step (fun q => ?_) (fun q => ?_)
  · rw [if_pos (fun c => q (ao.2 c))]; try rfl
  rw [if_neg (show ¬ ¬ (bt b 1 % 128 = 0 ∧ bt b 2 = 0) from fun c => c (ao.1 q)), Option.bind_some]
  refine bq_step (fun q => by rw [if_pos (show bt b 3 = 0 from q)]; try rfl) (fun q => ?_)
  have w0 : WfC b 0 b.length := .whole (by omega)
  have w1 := w0.fwd (n := 4) (by omega) (by omega)
  have hs := shr_u8 (x := bt b 1) (k := 7) (by omega)
  rw [show ((7 : Nat) : Int) = 7 from rfl, show (2 : Int) ^ 7 = 128 from rfl] at hs
  rw [if_neg (show ¬ bt b 3 = 0 from q), Option.bind_some, new_is, Option.bind_some]
  dsimp only
  rw [text_ok w0 (by omega) (by omega), Option.bind_some, Option.bind_some, e3, e1, hs, w64 (x := bt b 1 / 128) (by omega) (by omega), w64 (x := bt b 3) (by omega) (by omega)]
  dsimp only
  by_cases hl : b.length < 4 + 8 * (bt b 3).toNat
  · rw [if_pos hl]
    have key := reget_bad (n := fuel) (fl := bt b 1 / 128) (c := bt b 3) hb (by omega) (bt b 3).toNat fuel 0 (0 + 4) false [] (by omega) (fuel_ge (by omega)) w1 (.inr (by omega)) (by simp)
    rw [show ((0 : Nat) : Int) = 0 from rfl] at key
    rw [key]
  · rw [if_neg hl]
    have key := reget_good (n := fuel) (fl := bt b 1 / 128) (c := bt b 3) hb (by omega) (bt b 3).toNat fuel 0 4 [] (by omega) (fuel_ge (by omega)) (by omega) (by simp)
    rw [show ((4 : Nat) : Int) = 0 + 4 from rfl, show ((0 : Nat) : Int) = 0 from rfl, List.nil_append] at key
    rw [key]
    unfold reTail reMsg
    rfl
end Go.VP
set_option linter.unusedVariables false
set_option linter.unusedSimpArgs false
set_option maxRecDepth 100000
namespace Go.VP
open Go Go.VI
noncomputable def avB (m : Msg) : Bool := rqB m || (rpB m || reB m)
noncomputable def avPut (m : Msg) : Bs := if rqB m = true then rqBytes m else if rpB m = true then (if m.kind = 6 then akBytes m else rpBytes m) else if reB m = true then reBytes m else []
noncomputable def encAv (l : List Msg) : Bs × Int × Int := match badP avB l 0 with
  | some i => ([], (i : Int), 1)
  | none => match l with
    | [] => ([], 0, 8)
    | [m] => if 65535 < (avPut m).length then ([], 0, 10) else (avPut m, 0, 0)
    | _ => ([], 1, 8)
def avGet (b : Bs) : Msg × Int × Int := if bt b 0 = 1 then rqGet b else if bt b 0 = 3 then reGet b else rpGet b
def parseAv (b : Bs) : List Msg × Int × Int :=
  if 65535 < b.length then ([], 65535, 10) else if b.length = 0 then ([], 0, 2) else if bt b 0 < 1 ∨ 4 < bt b 0 then ([], 0, 4)
  else if (avGet b).2.2 ≠ 0 then ([], (avGet b).2.1, (avGet b).2.2) else ([(avGet b).1], 0, 0)
theorem avright_is {m : Msg} (g : GoodV m) : g_aodv_Right (m, ()) = some ((avB m, ()), ()) := by
  rw [g_aodv_Right_eq, rqright_is g, Option.bind_some]
  unfold avB
  dsimp only
  cases rqB m with
  | true => rfl
  | false =>
    rw [iff_, rpright_is g, Option.bind_some]
    dsimp only
    cases rpB m with
    | true => rfl
    | false => rw [iff_, errright_is g]; try rfl
theorem avget_is {b : Bs} (h0 : 1 ≤ b.length) (hb : b.length ≤ 1000000) : g_aodv_get (b, ()) = some (trip (avGet b), ()) := by
  rw [g_aodv_get_eq, get_bt (i := 0) (by omega), Option.bind_some]
  unfold avGet
  refine bq_step (fun q => ?_) (fun q => ?_)
  · rw [if_pos (show bt b 0 = 1 from q), rqget_is hb]; try rfl
  rw [if_neg (show ¬ bt b 0 = 1 from q)]
  refine bq_step (fun q => ?_) (fun q => ?_)
  · rw [if_pos (show bt b 0 = 3 from q), reget2_is hb]; try rfl
  rw [if_neg (show ¬ bt b 0 = 3 from q), rpget_is h0 hb]; try rfl
theorem avparse_is {b : Bs} (hb : b.length ≤ 1000000000) : g_aodv_Parse (b, ()) = some (trip (parseAv b), ()) := by
  rw [g_aodv_Parse_eq]
  unfold parseAv
  refine dq_step (fun h => by rw [if_pos (by omega)]; try rfl) (fun h => ?_)
  rw [if_neg (show ¬ 65535 < b.length by omega)]
  refine bq_step (fun h => by rw [if_pos (by omega)]; try rfl) (fun h1 => ?_)
  rw [if_neg (show ¬ b.length = 0 by omega), get_bt (i := 0) (by omega), Option.bind_some, Option.bind_some]
  refine dq_step (fun h => by rw [if_pos (show bt b 0 < 1 ∨ 4 < bt b 0 from .inl h)]; try rfl) (fun h2 => ?_)
  refine dq_step (fun h => by rw [if_pos (show bt b 0 < 1 ∨ 4 < bt b 0 from .inr h)]; try rfl) (fun h3 => ?_)
  rw [if_neg (show ¬ (bt b 0 < 1 ∨ 4 < bt b 0) from fun c => c.elim h2 h3), avget_is (by omega) (by omega), Option.bind_some]
  refine ne_step (fun q => ?_) (fun q => ?_)
  · rw [if_pos q]; try rfl
  · rw [if_neg (fun c => c q)]; try rfl
theorem avenc_is {l : List Msg} (g : ∀ m ∈ l, GoodV m) (hl : l.length ≤ 1000000) : g_aodv_Encode (l, ()) = some (trip (encAv l), ()) := by
  show h_aodv_Encode fuel (l, ()) = _
  rw [h_aodv_Encode_eq]
  have main : ∀ (d m i : Nat), i + d = l.length → d < m → badP avB l 0 = badP avB (l.drop i) i → L_aodv_Encode_0 fuel m l i = some (trip (encAv l), ()) := by
    intro d
    induction d with
    | zero =>
      intro m i hd hm hb
      obtain ⟨m, rfl⟩ : ∃ k, m = k + 1 := ⟨m - 1, by omega⟩
      rw [List.drop_eq_nil_of_le (by omega)] at hb
      have hn : badP avB l 0 = none := hb
      have hok := badP_none hn
      rw [L_aodv_Encode_0_eq, ifn (by omega)]
      match l, g, hn, hok with
      | [], _, _, _ => rfl
      | x :: y :: r, _, hn, _ =>
        have he : encAv (x :: y :: r) = ([], 1, 8) := by unfold encAv; rw [hn]
        rw [he, if_neg (by simp; omega), ifd (by simp; omega)]
      | [x], g, hn, hok =>
        have g := g x (by simp)
        have hx := hok x (by simp)
        have he : encAv [x] = if 65535 < (avPut x).length then ([], 0, 10) else (avPut x, 0, 0) := by unfold encAv; rw [hn]
        have fin : ∀ s : Bs, s = avPut x → (if (decide (65535 < (s.length : Int))) = true then some ((([] : Bs), 0, 10, ()), ()) else some ((s, 0, 0, ()), ())) = some (trip (encAv [x]), ()) := by
          intro s hs
          rw [he, ← hs]
          refine dq_step (fun h => ?_) (fun h => ?_)
          · rw [if_pos (by omega)]
          · rw [if_neg (by omega)]
        rw [if_neg (by simp), ifn (by simp), show [x][0]? = some x from rfl]
        simp only [Option.bind_some]
        rw [rqput_is g, Option.bind_some]
        dsimp only
        unfold rqPut
        cases h1 : rqB x with
        | true =>
          simp only [if_true]
          rw [ifnt]
          exact fin _ (by unfold avPut; rw [if_pos h1])
        | false =>
          rw [iff_, ifnf, rpput_is g, Option.bind_some]
          dsimp only
          unfold rpPut
          cases h2 : rpB x with
          | true =>
            simp only [if_true]
            rw [ifnt]
            exact fin _ (by unfold avPut; rw [if_neg (show ¬ rqB x = true by rw [h1]; simp), if_pos h2])
          | false =>
            rw [iff_, ifnf, reput2_is g, Option.bind_some]
            have h3 : reB x = true := by unfold avB at hx; rw [h1, h2] at hx; simpa using hx
            refine fin _ ?_
            unfold rePut avPut
            rw [if_pos h3, if_neg (show ¬ rqB x = true by rw [h1]; simp), if_neg (show ¬ rpB x = true by rw [h2]; simp), if_pos h3]
    | succ d ih =>
      intro m i hd hm hb
      obtain ⟨m, rfl⟩ : ∃ k, m = k + 1 := ⟨m - 1, by omega⟩
      have hi : i < l.length := by omega
      rw [List.drop_eq_getElem_cons hi, badP] at hb
      rw [L_aodv_Encode_0_eq, ifd (by omega), if_pos (by omega), Int.toNat_natCast, bind_at hi, avright_is (g _ (List.getElem_mem hi)), Option.bind_some]
      dsimp only
      cases ho : avB l[i] with
      | true =>
        rw [if_pos ho] at hb
        have := ih m (i + 1) (by omega) (by omega) hb
        rw [ifnt, w64 (by omega) (by omega)]
        exact this
      | false =>
        rw [if_neg (by rw [ho]; simp)] at hb
        rw [ifnf]
        unfold encAv; rw [hb]
  exact main l.length fuel 0 (by omega) (fuel_ge (by omega)) rfl
end Go.VP
set_option linter.unusedVariables false
set_option linter.unusedSimpArgs false
set_option maxRecDepth 100000
namespace Go.VP
open Go Go.VI
theorem drop_step {b x r : Bs} {p n : Nat} (h : b.drop p = x ++ r) (hx : x.length = n) : b.drop (p + n) = r ∧ cut_ b p (n : Int) = x := by
  rw [cut_dropN, h, ← List.drop_drop, h]
  exact ⟨List.drop_left' hx, List.take_left' hx⟩
theorem glue4 (b : Bs) (p : Nat) : cut_ b p 4 ++ b.drop (p + 4) = b.drop p := by
  have := cut_dropN b p 4
  rw [show ((4 : Nat) : Int) = 4 from rfl] at this
  rw [this, ← List.drop_drop, List.take_append_drop]
theorem cut4_len {b : Bs} {p : Nat} (h : p + 4 ≤ b.length) : (cut_ b p 4).length = 4 := by
  have := cut_length (s := b) (p := p) (n := 4) (by omega) (by omega) (by omega)
  omega
theorem num4 {b : Bs} {p : Nat} (h : p + 4 ≤ b.length) : W32 (num (cut_ b p 4)) := by
  have := num_rng (cut_ b p 4)
  rw [cut4_len h] at this
  exact ⟨this.1, by have := this.2; omega⟩
theorem be_num4 {b : Bs} {p : Nat} (h : p + 4 ≤ b.length) : be 4 (num (cut_ b p 4)) = cut_ b p 4 := be_num 4 _ (cut4_len h)
theorem num_be4v {n : Int} (h : W32 n) : num (be 4 n) = n := num_be 4 n h.1 (by have := h.2; omega)
theorem bt_u8 {c : Int} (h : 0 ≤ c ∧ c < 256) : ((u8of c).toNat : Int) = c := by rw [u8of_int]; omega
theorem bare_eq {m x : Msg} (h : bareB m = true) (hx : bareOf m = some x) : m = x := by
  unfold bareB at h
  rw [hx] at h
  exact (eqB_true.1 h).symm
theorem bare_of {m : Msg} (h : bareOf m = some m) : bareB m = true := by
  unfold bareB; rw [h]; exact eqB_refl m
theorem RqR.is {m : Msg} (h : RqR m) : m = S_api_Msg.mk 3 0 0 [] 0 0 [] 0 0 [] 0 [] m.seq m.seq2 0 m.flags m.hops m.nonce 0 m.addr m.orig [] 0 [] m.subs := by
  have hk := h.kind
  have := bare_eq h.bare (by unfold bareOf; rw [if_neg (by omega), if_neg (by omega), if_pos hk])
  rw [hk] at this
  exact this
theorem rq_back {m : Msg} (h : RqR m) : rqGet (rqBytes m) = (m, 0, 0) ∧ bt (rqBytes m) 0 = 1 := by
  have b4 : ∀ n, (be 4 n).length = 4 := be_length 4
  have hf := h.flags
  have hh := h.hops
  have hae := allE_iff.1 h.subs
  obtain ⟨d1, c1⟩ := drop_step (b := rqBytes m) (p := 4) (n := 4) (x := be 4 m.nonce) rfl (b4 _)
  obtain ⟨d2, c2⟩ := drop_step d1 h.addr
  obtain ⟨d3, c3⟩ := drop_step d2 (b4 _)
  obtain ⟨d4, c4⟩ := drop_step d3 h.orig
  obtain ⟨d5, c5⟩ := drop_step d4 (b4 _)
  have hlen := congrArg List.length d5
  rw [List.length_drop] at hlen
  have hL : 24 ≤ (rqBytes m).length := by unfold rqBytes; simp only [List.length_append, List.length_cons, List.length_nil, b4, h.addr, h.orig]; omega
  have e1 : bt (rqBytes m) 1 = 8 * m.flags := bt_u8 (by omega)
  have e2 : bt (rqBytes m) 2 = 0 := rfl
  have e3 : bt (rqBytes m) 3 = m.hops := bt_u8 hh
  refine ⟨?_, rfl⟩
  unfold rqGet
  rw [if_neg (by omega), e1, e2, if_neg (by omega)]
  unfold tailE
  rw [show (4 + 4 + 4 + 4 + 4 + 4 : Nat) = 24 from rfl] at d5
  rw [d5, getE_back hae, if_neg (show ¬ (0 : Int) ≠ 0 by decide)]
  unfold rqMsg
  rw [d5, getE_back hae, e1, e3]
  have c1 : cut_ (rqBytes m) 4 4 = _ := c1
  have c2 : cut_ (rqBytes m) 8 4 = _ := c2
  have c3 : cut_ (rqBytes m) 12 4 = _ := c3
  have c4 : cut_ (rqBytes m) 16 4 = _ := c4
  have c5 : cut_ (rqBytes m) 20 4 = _ := c5
  rw [c1, c2, c3, c4, c5, num_be4v h.nonce, num_be4v h.seq, num_be4v h.seq2, show 8 * m.flags / 8 = m.flags by omega]
  rw [← h.is]
theorem head4 {b : Bs} (h : ¬ b.length < 4) : [u8of (bt b 0), u8of (bt b 1), u8of (bt b 2), u8of (bt b 3)] ++ b.drop 4 = b := by
  obtain ⟨w, x, y, z, r, rfl⟩ := four_of h
  show [u8of (w.toNat : Int), u8of (x.toNat : Int), u8of (y.toNat : Int), u8of (z.toNat : Int)] ++ r = _
  rw [u8of_nat, u8of_nat, u8of_nat, u8of_nat]; rfl
theorem tailE_ok {b : Bs} {p : Nat} {m : Msg} (h : (tailE b p m).2.2 = 0) : tailE b p m = (m, 0, 0) ∧ AllE (getE (b.drop p)).1 ∧ encS (getE (b.drop p)).1 = b.drop p ∧ 2 * (getE (b.drop p)).1.length ≤ b.length := by
  unfold tailE at h ⊢
  by_cases q : (getE (b.drop p)).2.2 ≠ 0
  · rw [if_pos q] at h; exact absurd h q
  · rw [if_neg q]
    obtain ⟨_, k1, k2, k3⟩ := getE_ok (Classical.byContradiction q)
    rw [List.length_drop] at k3
    exact ⟨rfl, k1, k2, by omega⟩
theorem rq_again {b : Bs} (h0 : bt b 0 = 1) (h : (rqGet b).2.2 = 0) : rqGet b = (rqMsg b, 0, 0) ∧ RqR (rqMsg b) ∧ rqBytes (rqMsg b) = b ∧ (rqMsg b).subs.length ≤ b.length := by
  unfold rqGet at h ⊢
  by_cases h1 : b.length < 24
  · rw [if_pos h1] at h; cases h
  by_cases h2 : ¬ (bt b 1 % 8 = 0 ∧ bt b 2 = 0)
  · rw [if_neg h1, if_pos h2] at h; cases h
  rw [if_neg h1, if_neg h2] at h ⊢
  obtain ⟨k1, k2, k3, k4⟩ := tailE_ok h
  have h2 := Classical.byContradiction h2
  have hx := bt_rng b 1
  have hz := bt_rng b 3
  refine ⟨k1, ⟨rfl, bare_of rfl, by show 0 ≤ bt b 1 / 8 ∧ bt b 1 / 8 ≤ 31; omega, cut4_len (p := 8) (by omega), cut4_len (p := 16) (by omega), num4 (p := 4) (by omega), num4 (p := 12) (by omega), num4 (p := 20) (by omega), hz, allE_iff.2 k2⟩, ?_, by show (getE (b.drop 24)).1.length ≤ _; omega⟩
  show [1, u8of (8 * (bt b 1 / 8)), 0, u8of (bt b 3)] ++ (be 4 (num (cut_ b (4 : Nat) 4)) ++ (cut_ b (8 : Nat) 4 ++ (be 4 (num (cut_ b (12 : Nat) 4)) ++ (cut_ b (16 : Nat) 4 ++ (be 4 (num (cut_ b (20 : Nat) 4)) ++ encS (getE (b.drop 24)).1))))) = b
  rw [k3, be_num4 (by omega), be_num4 (by omega), be_num4 (by omega), glue4 b 20, glue4 b 16, glue4 b 12, glue4 b 8, glue4 b 4, show 8 * (bt b 1 / 8) = bt b 1 by omega]
  have := head4 (b := b) (by omega)
  rw [h0, h2.2] at this
  exact this
theorem RpR.is {m : Msg} (h : RpR m) : m = S_api_Msg.mk 4 0 0 [] 0 0 [] m.plen 0 [] 0 [] m.seq 0 m.interval m.flags m.hops 0 0 m.addr m.orig [] 0 [] m.subs := by
  have hk := h.kind
  have := bare_eq h.bare (by unfold bareOf; rw [if_neg (by omega), if_neg (by omega), if_neg (by omega), if_pos hk])
  rw [hk] at this
  exact this
theorem AkR.is {m : Msg} (h : AkR m) : m = S_api_Msg.mk 6 0 0 [] 0 0 [] 0 0 [] 0 [] 0 0 0 0 0 0 0 [] [] [] 0 [] m.subs := by
  have hk := h.kind
  have := bare_eq h.bare (by unfold bareOf; rw [if_neg (by omega), if_neg (by omega), if_neg (by omega), if_neg (by omega), if_neg (by omega), if_pos hk])
  rw [hk] at this
  exact this
theorem rp_back {m : Msg} (h : RpR m) : rpGet (rpBytes m) = (m, 0, 0) ∧ bt (rpBytes m) 0 = 2 := by
  have b4 : ∀ n, (be 4 n).length = 4 := be_length 4
  have hf := h.flags
  have hh := h.hops
  have hp := h.plen
  have hae := allE_iff.1 h.subs
  obtain ⟨d1, c1⟩ := drop_step (b := rpBytes m) (p := 4) (n := 4) (x := m.addr) rfl h.addr
  obtain ⟨d2, c2⟩ := drop_step d1 (b4 _)
  obtain ⟨d3, c3⟩ := drop_step d2 h.orig
  obtain ⟨d4, c4⟩ := drop_step d3 (b4 _)
  have hL : 20 ≤ (rpBytes m).length := by unfold rpBytes; simp only [List.length_append, List.length_cons, List.length_nil, b4, h.addr, h.orig]; omega
  have e0 : bt (rpBytes m) 0 = 2 := rfl
  have e1 : bt (rpBytes m) 1 = 64 * m.flags := bt_u8 (by omega)
  have e2 : bt (rpBytes m) 2 = m.plen := bt_u8 (by omega)
  have e3 : bt (rpBytes m) 3 = m.hops := bt_u8 hh
  refine ⟨?_, rfl⟩
  unfold rpGet
  rw [e0, if_neg (by decide), if_neg (by omega), e1, e2, if_neg (by omega)]
  unfold tailE
  rw [show (4 + 4 + 4 + 4 + 4 : Nat) = 20 from rfl] at d4
  rw [d4, getE_back hae, if_neg (show ¬ (0 : Int) ≠ 0 by decide)]
  unfold rpMsg
  rw [d4, getE_back hae, e1, e2, e3]
  have c1 : cut_ (rpBytes m) 4 4 = _ := c1
  have c2 : cut_ (rpBytes m) 8 4 = _ := c2
  have c3 : cut_ (rpBytes m) 12 4 = _ := c3
  have c4 : cut_ (rpBytes m) 16 4 = _ := c4
  rw [c1, c2, c3, c4, num_be4v h.seq, num_be4v h.life, show 64 * m.flags / 64 = m.flags by omega]
  rw [← h.is]
theorem ak_back {m : Msg} (h : AkR m) : rpGet (akBytes m) = (m, 0, 0) ∧ bt (akBytes m) 0 = 4 := by
  have hae := allE_iff.1 h.subs
  have d : (akBytes m).drop 2 = encS m.subs := rfl
  have e0 : bt (akBytes m) 0 = 4 := rfl
  have e1 : bt (akBytes m) 1 = 0 := rfl
  refine ⟨?_, rfl⟩
  unfold rpGet
  rw [e0, if_pos rfl, if_neg (by unfold akBytes; simp), e1, if_neg (by decide)]
  unfold tailE
  rw [d, getE_back hae, if_neg (show ¬ (0 : Int) ≠ 0 by decide)]
  unfold akMsg
  rw [d, getE_back hae]
  rw [← h.is]
theorem rp_again {b : Bs} (h4 : ¬ bt b 0 = 4) (h0 : bt b 0 = 2) (h : (rpGet b).2.2 = 0) : rpGet b = (rpMsg b, 0, 0) ∧ RpR (rpMsg b) ∧ rpBytes (rpMsg b) = b ∧ (rpMsg b).subs.length ≤ b.length := by
  unfold rpGet at h ⊢
  rw [if_neg h4] at h ⊢
  by_cases h1 : b.length < 20
  · rw [if_pos h1] at h; cases h
  by_cases h2 : ¬ (bt b 1 % 64 = 0 ∧ bt b 2 < 32)
  · rw [if_neg h1, if_pos h2] at h; cases h
  rw [if_neg h1, if_neg h2] at h ⊢
  obtain ⟨k1, k2, k3, k4⟩ := tailE_ok h
  have h2 := Classical.byContradiction h2
  have hx := bt_rng b 1
  have hy := bt_rng b 2
  have hz := bt_rng b 3
  refine ⟨k1, ⟨rfl, bare_of rfl, by show 0 ≤ bt b 1 / 64 ∧ bt b 1 / 64 ≤ 3; omega, by show 0 ≤ bt b 2 ∧ bt b 2 ≤ 31; omega, cut4_len (p := 4) (by omega), cut4_len (p := 12) (by omega), num4 (p := 8) (by omega), num4 (p := 16) (by omega), hz, allE_iff.2 k2⟩, ?_, by show (getE (b.drop 20)).1.length ≤ _; omega⟩
  show [2, u8of (64 * (bt b 1 / 64)), u8of (bt b 2), u8of (bt b 3)] ++ (cut_ b (4 : Nat) 4 ++ (be 4 (num (cut_ b (8 : Nat) 4)) ++ (cut_ b (12 : Nat) 4 ++ (be 4 (num (cut_ b (16 : Nat) 4)) ++ encS (getE (b.drop 20)).1)))) = b
  rw [k3, be_num4 (by omega), be_num4 (by omega), glue4 b 16, glue4 b 12, glue4 b 8, glue4 b 4, show 64 * (bt b 1 / 64) = bt b 1 by omega]
  have := head4 (b := b) (by omega)
  rw [h0] at this
  exact this
theorem ak_again {b : Bs} (hb : 1 ≤ b.length) (h0 : bt b 0 = 4) (h : (rpGet b).2.2 = 0) : rpGet b = (akMsg b, 0, 0) ∧ AkR (akMsg b) ∧ akBytes (akMsg b) = b ∧ (akMsg b).subs.length ≤ b.length := by
  unfold rpGet at h ⊢
  rw [if_pos h0] at h ⊢
  by_cases h1 : b.length < 2
  · rw [if_pos h1] at h; cases h
  by_cases h2 : ¬ bt b 1 = 0
  · rw [if_neg h1, if_pos h2] at h; cases h
  rw [if_neg h1, if_neg h2] at h ⊢
  obtain ⟨k1, k2, k3, k4⟩ := tailE_ok h
  have h2 := Classical.byContradiction h2
  refine ⟨k1, ⟨rfl, bare_of rfl, allE_iff.2 k2⟩, ?_, by show (getE (b.drop 2)).1.length ≤ _; omega⟩
  show [4, 0] ++ encS (getE (b.drop 2)).1 = b
  rw [k3]
  match b, h1, h0, h2 with
  | w :: x :: r, _, h0, h2 =>
    have e0 : w = 4 := u8_eq (a := w) (b := 4) h0
    have e1 : x = 0 := u8_eq (a := x) (b := 0) h2
    rw [e0, e1]; rfl
  | [], h1, _, _ => simp at h1
  | [_], h1, _, _ => simp at h1
theorem ReR.is {m : Msg} (h : ReR m) : m = S_api_Msg.mk 5 0 0 [] 0 0 [] 0 0 [] 0 [] 0 0 0 m.flags 0 0 0 [] [] m.list 0 [] m.subs := by
  have hk := h.kind
  have := bare_eq h.bare (by unfold bareOf; rw [if_neg (by omega), if_neg (by omega), if_neg (by omega), if_neg (by omega), if_pos hk])
  rw [hk] at this
  exact this
theorem destG_back {b : Bs} : ∀ (l : List Dest) (p : Nat) (r : Bs), (∀ d ∈ l, destB d = true) → b.drop p = dests l ++ r → destG b l.length p = l ∧ b.drop (p + 8 * l.length) = r
  | [], p, r, _, h => ⟨rfl, h⟩
  | d :: l, p, r, hl, h => by
    obtain ⟨h1, h2⟩ := destB_ok (hl d (List.mem_cons_self ..))
    unfold dests at h
    rw [List.append_assoc, List.append_assoc] at h
    obtain ⟨d1, c1⟩ := drop_step h h1
    obtain ⟨d2, c2⟩ := drop_step d1 (be_length 4 _)
    obtain ⟨k1, k2⟩ := destG_back l (p + 4 + 4) r (fun x hx => hl x (List.mem_cons_of_mem _ hx)) d2
    have c1 : cut_ b p 4 = d.addr := c1
    have c2 : cut_ b ((p : Int) + 4) 4 = be 4 d.seq := c2
    refine ⟨?_, by rw [← k2]; congr 1; simp; omega⟩
    rw [List.length_cons, destG, c1, c2, num_be4v h2, k1]
theorem re_back {m : Msg} (h : ReR m) : reGet (reBytes m) = (m, 0, 0) ∧ bt (reBytes m) 0 = 3 := by
  have hf := h.flags
  have hl := h.len
  have hae := allE_iff.1 h.subs
  have e1 : bt (reBytes m) 1 = 128 * m.flags := bt_u8 (by omega)
  have e2 : bt (reBytes m) 2 = 0 := rfl
  have e3 : bt (reBytes m) 3 = m.list.length := bt_u8 (by omega)
  obtain ⟨k1, k2⟩ := destG_back (b := reBytes m) m.list 4 (encS m.subs) (List.all_eq_true.1 h.list) rfl
  have hdl : ∀ l : List Dest, (∀ d ∈ l, destB d = true) → (dests l).length = 8 * l.length := fun l => by
    induction l with
    | nil => intro _; rfl
    | cons d l ih =>
      intro hh
      have := (destB_ok (hh d (List.mem_cons_self ..))).1
      unfold dests
      rw [List.length_append, List.length_append, ih (fun x hx => hh x (List.mem_cons_of_mem _ hx)), this, be_length, List.length_cons]
      omega
  have hL : (reBytes m).length = 4 + 8 * m.list.length + (encS m.subs).length := by
    unfold reBytes
    rw [List.length_append, List.length_append, hdl _ (List.all_eq_true.1 h.list)]
    simp only [List.length_cons, List.length_nil]; omega
  refine ⟨?_, rfl⟩
  unfold reGet
  rw [if_neg (by omega), e1, e2, if_neg (by omega), e3, if_neg (by omega), Int.toNat_natCast, if_neg (by omega)]
  unfold tailE
  rw [k2, getE_back hae, if_neg (show ¬ (0 : Int) ≠ 0 by decide)]
  unfold reMsg
  rw [e1, e3, Int.toNat_natCast, k1, k2, getE_back hae, show 128 * m.flags / 128 = m.flags by omega]
  rw [← h.is]
theorem destG_len (b : Bs) : ∀ (k p : Nat), (destG b k p).length = k
  | 0, _ => rfl
  | k + 1, p => by rw [destG, List.length_cons, destG_len b k]
theorem destG_again {b : Bs} : ∀ (k p : Nat), p + 8 * k ≤ b.length → (∀ d ∈ destG b k p, destB d = true) ∧ dests (destG b k p) ++ b.drop (p + 8 * k) = b.drop p
  | 0, p, _ => ⟨(fun d hd => by cases hd), rfl⟩
  | k + 1, p, h => by
    obtain ⟨h1, h2⟩ := destG_again (b := b) k (p + 8) (by omega)
    have e : ((p : Int) + 4) = ((p + 4 : Nat) : Int) := by omega
    refine ⟨fun d hd => ?_, ?_⟩
    · rw [destG] at hd
      rcases List.mem_cons.1 hd with rfl | hd
      · unfold destB
        rw [Bool.and_eq_true, decide_eq_true_eq, fitsB4, e]
        exact ⟨cut4_len (by omega), num4 (by omega)⟩
      · exact h1 d hd
    · rw [destG, dests, e, be_num4 (by omega), List.append_assoc, List.append_assoc, show p + 8 * (k + 1) = p + 8 + 8 * k by omega, h2]
      show cut_ b p 4 ++ (cut_ b ((p + 4 : Nat) : Int) 4 ++ b.drop (p + 4 + 4)) = _
      rw [glue4, glue4]
theorem re_again {b : Bs} (h0 : bt b 0 = 3) (h : (reGet b).2.2 = 0) : reGet b = (reMsg b, 0, 0) ∧ ReR (reMsg b) ∧ reBytes (reMsg b) = b ∧ (reMsg b).subs.length ≤ b.length := by
  unfold reGet at h ⊢
  by_cases h1 : b.length < 4
  · rw [if_pos h1] at h; cases h
  by_cases h2 : ¬ (bt b 1 % 128 = 0 ∧ bt b 2 = 0)
  · rw [if_neg h1, if_pos h2] at h; cases h
  by_cases h3 : bt b 3 = 0
  · rw [if_neg h1, if_neg h2, if_pos h3] at h; cases h
  by_cases h4 : b.length < 4 + 8 * (bt b 3).toNat
  · rw [if_neg h1, if_neg h2, if_neg h3, if_pos h4] at h; cases h
  rw [if_neg h1, if_neg h2, if_neg h3, if_neg h4] at h ⊢
  obtain ⟨k1, k2, k3, k4⟩ := tailE_ok h
  have h2 := Classical.byContradiction h2
  have hx := bt_rng b 1
  have hz := bt_rng b 3
  obtain ⟨g1, g2⟩ := destG_again (b := b) (bt b 3).toNat 4 (by omega)
  have hlen := destG_len b (bt b 3).toNat 4
  refine ⟨k1, ⟨rfl, bare_of rfl, by show bt b 1 / 128 = 0 ∨ bt b 1 / 128 = 1; omega, by show 1 ≤ (destG b (bt b 3).toNat 4).length ∧ (destG b (bt b 3).toNat 4).length ≤ 255; omega, List.all_eq_true.2 g1, allE_iff.2 k2⟩, ?_, by show (getE (b.drop (4 + 8 * (bt b 3).toNat))).1.length ≤ _; omega⟩
  show [3, u8of (128 * (bt b 1 / 128)), 0, u8of ((destG b (bt b 3).toNat 4).length : Int)] ++ (dests (destG b (bt b 3).toNat 4) ++ encS (getE (b.drop (4 + 8 * (bt b 3).toNat))).1) = b
  rw [k3, g2, hlen, show 128 * (bt b 1 / 128) = bt b 1 by omega, show (((bt b 3).toNat : Nat) : Int) = bt b 3 by omega]
  have := head4 (b := b) (by omega)
  rw [h0, h2.2] at this
  exact this
end Go.VP
set_option linter.unusedVariables false
set_option linter.unusedSimpArgs false
set_option maxRecDepth 100000
namespace Go.VP
open Go Go.VI
theorem avB_cases {m : Msg} (h : avB m = true) : RqR m ∨ RpR m ∨ AkR m ∨ ReR m := by
  unfold avB at h
  simp only [Bool.or_eq_true, rqB_iff, rpB_iff, reB_iff] at h
  rcases h with h | (h | h) | h
  · exact .inl h
  · exact .inr (.inl h)
  · exact .inr (.inr (.inl h))
  · exact .inr (.inr (.inr h))
theorem avB_of {m : Msg} (h : RqR m ∨ RpR m ∨ AkR m ∨ ReR m) : avB m = true := by
  unfold avB
  simp only [Bool.or_eq_true, rqB_iff, rpB_iff, reB_iff]
  rcases h with h | h | h | h
  · exact .inl h
  · exact .inr (.inl (.inl h))
  · exact .inr (.inl (.inr h))
  · exact .inr (.inr h)
theorem put_rq {m : Msg} (h : RqR m) : avPut m = rqBytes m := by unfold avPut; rw [if_pos (rqB_iff.2 h)]
theorem put_rp {m : Msg} (h : RpR m) : avPut m = rpBytes m := by
  have := h.kind
  unfold avPut; rw [if_neg (fun q => by have := (rqB_iff.1 q).kind; omega), if_pos (rpB_iff.2 (.inl h)), if_neg (by omega)]
theorem put_ak {m : Msg} (h : AkR m) : avPut m = akBytes m := by
  have := h.kind
  unfold avPut; rw [if_neg (fun q => by have := (rqB_iff.1 q).kind; omega), if_pos (rpB_iff.2 (.inr h)), if_pos (by omega)]
theorem put_re {m : Msg} (h : ReR m) : avPut m = reBytes m := by
  have := h.kind
  unfold avPut; rw [if_neg (fun q => by have := (rqB_iff.1 q).kind; omega), if_neg (fun q => by rcases rpB_iff.1 q with q | q <;> (have := q.kind; omega)), if_pos (reB_iff.2 h)]
theorem av_one {m : Msg} (h : avB m = true) : avGet (avPut m) = (m, 0, 0) ∧ 1 ≤ bt (avPut m) 0 ∧ bt (avPut m) 0 ≤ 4 ∧ (avPut m).length ≠ 0 := by
  have ne : ∀ b : Bs, 1 ≤ bt b 0 → b.length ≠ 0 := fun b hb q => by
    have : b = [] := List.eq_nil_of_length_eq_zero q
    subst this
    have : bt [] 0 = 0 := rfl
    omega
  unfold avGet
  rcases avB_cases h with h | h | h | h
  · obtain ⟨k1, k2⟩ := rq_back h
    rw [put_rq h, k2, if_pos rfl]
    exact ⟨k1, by omega, by omega, ne _ (by omega)⟩
  · obtain ⟨k1, k2⟩ := rp_back h
    rw [put_rp h, k2, if_neg (by decide), if_neg (by decide)]
    exact ⟨k1, by omega, by omega, ne _ (by omega)⟩
  · obtain ⟨k1, k2⟩ := ak_back h
    rw [put_ak h, k2, if_neg (by decide), if_neg (by decide)]
    exact ⟨k1, by omega, by omega, ne _ (by omega)⟩
  · obtain ⟨k1, k2⟩ := re_back h
    rw [put_re h, k2, if_neg (by decide), if_pos rfl]
    exact ⟨k1, by omega, by omega, ne _ (by omega)⟩
theorem encAv_one {m : Msg} (h : avB m = true) : encAv [m] = if 65535 < (avPut m).length then ([], 0, 10) else (avPut m, 0, 0) := by
  unfold encAv
  rw [badP_ok (fun x hx => by rw [List.mem_singleton.1 hx]; exact h)]
theorem av_right {l : List Msg} (h : (encAv l).2.2 = 0) : ∃ m, l = [m] ∧ avB m = true ∧ encAv l = (avPut m, 0, 0) ∧ (avPut m).length ≤ 65535 := by
  have h0 := h
  unfold encAv at h0
  split at h0
  · cases h0
  · rename_i hb
    have hok := badP_none hb
    split at h0
    · cases h0
    · rename_i m
      have hm := hok m (by simp)
      rw [encAv_one hm] at h ⊢
      by_cases q : 65535 < (avPut m).length
      · rw [if_pos q] at h; cases h
      · rw [if_neg q]; exact ⟨m, rfl, hm, rfl, by omega⟩
    · cases h0
theorem av_back {l : List Msg} (h : (encAv l).2.2 = 0) : parseAv (encAv l).1 = (l, 0, 0) ∧ (encAv l).1.length ≤ 65535 := by
  obtain ⟨m, rfl, hm, he, hl⟩ := av_right h
  rw [he]
  obtain ⟨k1, k2, k3, k4⟩ := av_one hm
  refine ⟨?_, hl⟩
  dsimp only
  unfold parseAv
  rw [if_neg (by omega), if_neg k4, if_neg (by omega), k1, if_neg (show ¬ (0 : Int) ≠ 0 by decide)]
theorem tailE_place {b : Bs} {p : Nat} {m : Msg} (hp : p ≤ b.length) : 0 ≤ (tailE b p m).2.1 ∧ (tailE b p m).2.1 ≤ b.length := by
  have := getE_place (b.drop p)
  rw [List.length_drop] at this
  unfold tailE
  split
  · dsimp only; omega
  · dsimp only; omega
theorem avGet_place {b : Bs} (h : 1 ≤ b.length) : 0 ≤ (avGet b).2.1 ∧ (avGet b).2.1 ≤ b.length := by
  unfold avGet
  split
  · unfold rqGet
    split
    · dsimp only; omega
    split
    · dsimp only; omega
    · exact tailE_place (by omega)
  split
  · unfold reGet
    split
    · dsimp only; omega
    split
    · dsimp only; omega
    split
    · dsimp only; omega
    split
    · dsimp only; omega
    · exact tailE_place (by omega)
  · unfold rpGet
    split
    · split
      · dsimp only; omega
      split
      · dsimp only; omega
      · exact tailE_place (by omega)
    · split
      · dsimp only; omega
      split
      · dsimp only; omega
      · exact tailE_place (by omega)
theorem av_parseerr {b : Bs} (h : (parseAv b).2.2 ≠ 0) : (parseAv b).1 = [] ∧ 0 ≤ (parseAv b).2.1 ∧ (parseAv b).2.1 ≤ b.length := by
  unfold parseAv at h ⊢
  split
  · exact ⟨rfl, by dsimp only; omega, by dsimp only; omega⟩
  · rename_i h1
    rw [if_neg h1] at h
    split
    · exact ⟨rfl, by dsimp only; omega, by dsimp only; omega⟩
    · rename_i h2
      rw [if_neg h2] at h
      split
      · exact ⟨rfl, by dsimp only; omega, by dsimp only; omega⟩
      · rename_i h3
        rw [if_neg h3] at h
        split
        · exact ⟨rfl, avGet_place (by omega)⟩
        · rename_i h4
          rw [if_neg h4] at h; exact absurd rfl h
theorem av_again {b : Bs} (h : (parseAv b).2.2 = 0) : ∃ m, parseAv b = ([m], 0, 0) ∧ avB m = true ∧ avPut m = b ∧ encAv [m] = (b, 0, 0) ∧ b.length ≤ 65535 ∧ m.subs.length ≤ b.length := by
  unfold parseAv at h ⊢
  by_cases h1 : 65535 < b.length
  · rw [if_pos h1] at h; cases h
  by_cases h2 : b.length = 0
  · rw [if_neg h1, if_pos h2] at h; cases h
  by_cases h3 : bt b 0 < 1 ∨ 4 < bt b 0
  · rw [if_neg h1, if_neg h2, if_pos h3] at h; cases h
  by_cases h4 : (avGet b).2.2 ≠ 0
  · rw [if_neg h1, if_neg h2, if_neg h3, if_pos h4] at h; exact absurd h h4
  rw [if_neg h1, if_neg h2, if_neg h3, if_neg h4]
  have h4 := Classical.byContradiction h4
  have fin : ∀ m, avGet b = (m, 0, 0) → avB m = true → avPut m = b → m.subs.length ≤ b.length → ∃ m', ([(avGet b).1], (0 : Int), (0 : Int)) = ([m'], 0, 0) ∧ avB m' = true ∧ avPut m' = b ∧ encAv [m'] = (b, 0, 0) ∧ b.length ≤ 65535 ∧ m'.subs.length ≤ b.length := fun m e hm hp hs => by
    refine ⟨m, by rw [e], hm, hp, ?_, by omega, hs⟩
    rw [encAv_one hm, hp, if_neg h1]
  by_cases c1 : bt b 0 = 1
  · have e : avGet b = rqGet b := by unfold avGet; rw [if_pos c1]
    rw [e] at h4 fin ⊢
    obtain ⟨k1, k2, k3, k4⟩ := rq_again c1 h4
    exact fin _ k1 (avB_of (.inl k2)) (by rw [put_rq k2, k3]) k4
  by_cases c3 : bt b 0 = 3
  · have e : avGet b = reGet b := by unfold avGet; rw [if_neg c1, if_pos c3]
    rw [e] at h4 fin ⊢
    obtain ⟨k1, k2, k3, k4⟩ := re_again c3 h4
    exact fin _ k1 (avB_of (.inr (.inr (.inr k2)))) (by rw [put_re k2, k3]) k4
  have e : avGet b = rpGet b := by unfold avGet; rw [if_neg c1, if_neg c3]
  rw [e] at h4 fin ⊢
  by_cases c4 : bt b 0 = 4
  · obtain ⟨k1, k2, k3, k4⟩ := ak_again (by omega) c4 h4
    exact fin _ k1 (avB_of (.inr (.inr (.inl k2)))) (by rw [put_ak k2, k3]) k4
  · obtain ⟨k1, k2, k3, k4⟩ := rp_again c4 (by have := bt_rng b 0; omega) h4
    exact fin _ k1 (avB_of (.inr (.inl k2))) (by rw [put_rp k2, k3]) k4
theorem AllE.fewS {l : List Sub} (h : AllE l) (hl : l.length ≤ 1000000) : FewS l := ⟨by omega, fun y hy => by have := (h y hy).2.2; omega⟩
theorem avB_good {m : Msg} (h : avB m = true) (hs : m.subs.length ≤ 1000000) : GoodV m := by
  have z : IntKind.has .i64 0 := has64.2 (by omega)
  have w8 : ∀ {n : Int}, W8 n → IntKind.has .i64 n := fun h => has64.2 (by have := h.1; have := h.2; omega)
  rcases avB_cases h with h | h | h | h
  · have hl : m.list = [] := congrArg S_api_Msg.list h.is
    have hi : m.interval = 0 := congrArg S_api_Msg.interval h.is
    exact ⟨h.nonce.has, h.seq.has, h.seq2.has, w8 h.hops, by rw [hi]; exact z, by rw [hl]; simp, by rw [hl]; intro d hd; (cases hd), (allE_iff.1 h.subs).fewS hs, hs⟩
  · have hl : m.list = [] := congrArg S_api_Msg.list h.is
    have h1 : m.nonce = 0 := congrArg S_api_Msg.nonce h.is
    have h2 : m.seq2 = 0 := congrArg S_api_Msg.seq2 h.is
    exact ⟨by rw [h1]; exact z, h.seq.has, by rw [h2]; exact z, w8 h.hops, h.life.has, by rw [hl]; simp, by rw [hl]; intro d hd; (cases hd), (allE_iff.1 h.subs).fewS hs, hs⟩
  · have hl : m.list = [] := congrArg S_api_Msg.list h.is
    have h1 : m.nonce = 0 := congrArg S_api_Msg.nonce h.is
    have h2 : m.seq2 = 0 := congrArg S_api_Msg.seq2 h.is
    have h3 : m.seq = 0 := congrArg S_api_Msg.seq h.is
    have h4 : m.hops = 0 := congrArg S_api_Msg.hops h.is
    have h5 : m.interval = 0 := congrArg S_api_Msg.interval h.is
    exact ⟨by rw [h1]; exact z, by rw [h3]; exact z, by rw [h2]; exact z, by rw [h4]; exact z, by rw [h5]; exact z, by rw [hl]; simp, by rw [hl]; intro d hd; (cases hd), (allE_iff.1 h.subs).fewS hs, hs⟩
  · have h1 : m.nonce = 0 := congrArg S_api_Msg.nonce h.is
    have h2 : m.seq2 = 0 := congrArg S_api_Msg.seq2 h.is
    have h3 : m.seq = 0 := congrArg S_api_Msg.seq h.is
    have h4 : m.hops = 0 := congrArg S_api_Msg.hops h.is
    have h5 : m.interval = 0 := congrArg S_api_Msg.interval h.is
    exact ⟨by rw [h1]; exact z, by rw [h3]; exact z, by rw [h2]; exact z, by rw [h4]; exact z, by rw [h5]; exact z, by have := h.len; omega, fun d hd => (destB_ok (List.all_eq_true.1 h.list d hd)).2.has, (allE_iff.1 h.subs).fewS hs, hs⟩
end Go.VP
set_option linter.unusedVariables false
set_option linter.unusedSimpArgs false
set_option maxRecDepth 100000
namespace Go.VP
open Go Go.VI
structure GoodQ (m : Msg) : Prop where
  rip : RM m
  ng : GoodG m
  av : GoodV m
  lean : GoodL m
theorem goodQ {m : Msg} (g : Good_api_Msg m) (h : Few m) : GoodQ m := by
  have hl := h.lite
  have g0 := g
  obtain ⟨g1, g2, g3, g4, g5, g6, g7, g8, g9, g10, g11, g12, g13, g14, g15, g16, g17, g18, g19, g20, g21, g22, g23, _⟩ := g
  have h1 := hl.list
  have h2 := hl.subs
  exact ⟨goodRM g0 h, ⟨g9, g8, g2, by omega, by omega⟩, ⟨g18, g13, g14, g17, g15, by omega, fun d hd => (g22.2 d hd).2.1, hl.fewS, by omega⟩, goodL g0 hl⟩
open Classical in
noncomputable def rightP (p : Int) (m : Msg) : Bool := if p = 1 then rightR m else if p = 2 then ngB m else if p = 3 then avB m else if p = 4 then leanB m else false
end Go.VP
set_option linter.unusedVariables false
set_option linter.unusedSimpArgs false
set_option maxRecDepth 100000
namespace Go.VP
open Go Go.VI
theorem spl_place (s : Bs) : ∀ (p : Int), (∀ q, spl p s = .error q → p ≤ q ∧ q ≤ p + s.length) ∧ (∀ l, spl p s = .ok l → ∀ t ∈ l, p ≤ t.at_ ∧ t.at_ ≤ p + s.length) := by
  induction h : s.length using Nat.strongRecOn generalizing s with
  | ind n ih =>
    intro p
    subst h
    match s with
    | [] =>
      rw [spl_nil]
      exact ⟨(fun q h => by cases h), (fun l h => by cases h; intro t ht; cases ht)⟩
    | t :: r =>
      by_cases ht : t = 0
      · subst ht
        rw [spl_zero]
        obtain ⟨i1, i2⟩ := ih r.length (by simp) r rfl (p + 1)
        cases hr : spl (p + 1) r with
        | error q =>
          refine ⟨fun q' h => ?_, (fun l h => by cases h)⟩
          cases h
          have := i1 q hr
          simp only [List.length_cons]; omega
        | ok l =>
          refine ⟨(fun q' h => by cases h), fun l' h x hx => ?_⟩
          cases h
          rcases List.mem_cons.1 hx with rfl | hx
          · dsimp only; omega
          · have := i2 l hr x hx
            simp only [List.length_cons]; omega
      · match r with
        | [] =>
          rw [spl_one ht]
          exact ⟨(fun q h => by cases h; simp; omega), (fun l h => by cases h)⟩
        | n :: d =>
          by_cases hn : d.length < n.toNat
          · rw [spl_bad ht hn]
            exact ⟨(fun q h => by cases h; simp only [List.length_cons]; omega), (fun l h => by cases h)⟩
          · rw [spl_all ht (by omega)]
            have hdl : (d.drop n.toNat).length = d.length - n.toNat := List.length_drop
            obtain ⟨i1, i2⟩ := ih (d.drop n.toNat).length (by rw [hdl]; simp; omega) (d.drop n.toNat) rfl (p + 2 + n.toNat)
            rw [hdl] at i1 i2
            cases hr : spl (p + 2 + n.toNat) (d.drop n.toNat) with
            | error q =>
              refine ⟨fun q' h => ?_, (fun l h => by cases h)⟩
              cases h
              have := i1 q hr
              simp only [List.length_cons]; omega
            | ok l =>
              refine ⟨(fun q' h => by cases h), fun l' h x hx => ?_⟩
              cases h
              rcases List.mem_cons.1 hx with rfl | hx
              · simp only [List.length_cons]; omega
              · have := i2 l hr x hx
                simp only [List.length_cons]; omega
theorem foldR_place : ∀ (l : List Tlv) (c : Ctx) (acc : List Msg), (foldR c l acc).2.2.2 ≠ 0 → ∃ t ∈ l, (foldR c l acc).2.2.1 = t.at_
  | [], c, acc, h => absurd rfl h
  | t :: r, c, acc, h => by
    rw [foldR] at h ⊢
    by_cases he : (oneR c t.type_ t.data).2.2 ≠ 0
    · rw [if_pos he]; exact ⟨t, List.mem_cons_self .., rfl⟩
    · rw [if_neg he] at h ⊢
      obtain ⟨x, hx, e⟩ := foldR_place r _ _ h
      exact ⟨x, List.mem_cons_of_mem _ hx, e⟩
theorem parseI_place {b : Bs} (h : (parseI b).2.2 ≠ 0) : (parseI b).1 = [] ∧ 0 ≤ (parseI b).2.1 ∧ (parseI b).2.1 ≤ b.length := by
  refine ⟨(parseI_cases b).elim (fun q => q.2) (fun ⟨l, _, _, _, _, q⟩ => absurd (by rw [q]) h), ?_⟩
  unfold parseI at h ⊢
  by_cases h0 : (bodyF b).2.2 ≠ 0
  · rw [if_pos h0]; exact (bodyF_bad h0).2
  rw [if_neg h0] at h ⊢
  obtain ⟨l1, l2, _, _, l5, _, l7⟩ := bodyF_ok (Classical.byContradiction h0)
  have hr := sizeB_rng b
  have hbl : ((behF b).length : Int) = b.length - (4 + (bodyF b).1.length) := by unfold behF; rw [List.length_drop]; omega
  have p1 := spl_place (bodyF b).1 4
  have p2 := spl_place (behF b) (4 + ((bodyF b).1.length : Int))
  cases h1 : spl 4 (bodyF b).1 with
  | error q =>
    have := p1.1 q h1
    dsimp only; omega
  | ok l =>
    rw [h1] at h
    cases h2 : spl (4 + ((bodyF b).1.length : Int)) (behF b) with
    | error q =>
      have := p2.1 q h2
      dsimp only; omega
    | ok k =>
      rw [h2] at h
      dsimp only at h ⊢
      obtain ⟨t, ht, e⟩ := foldR_place l c0 [] h
      have := p1.2 l h1 t ht
      omega
noncomputable def parseP (p : Int) (b : Bs) : List Msg × Int × Int := if p = 1 then parseR b else if p = 2 then parseN b else if p = 3 then parseAv b else if p = 4 then parseI b else ([], 0, 1)
noncomputable def encP (p : Int) (l : List Msg) : Bs × Int × Int := if p = 1 then encR l else if p = 2 then encNg l else if p = 3 then encAv l else if p = 4 then encO l else ([], 0, 1)
def GoodP (p : Int) (m : Msg) : Prop := (p = 1 → RM m) ∧ (p = 2 → GoodG m) ∧ (p = 3 → GoodV m) ∧ (p = 4 → GoodL m)
theorem GoodQ.p {m : Msg} (g : GoodQ m) (p : Int) : GoodP p m := ⟨fun _ => g.rip, fun _ => g.ng, fun _ => g.av, fun _ => g.lean⟩
theorem sright_p {p : Int} {m : Msg} (g : GoodP p m) : g_suite_Right (p, m, ()) = some ((rightP p m, ()), ()) := by
  rw [g_suite_Right_eq]
  unfold rightP
  refine bq_step (fun h => by rw [if_pos h, ripRight_is (g.1 h)]; rfl) (fun h1 => ?_)
  rw [if_neg h1]
  refine bq_step (fun h => by rw [if_pos h, ngright_is (g.2.1 h)]; rfl) (fun h2 => ?_)
  rw [if_neg h2]
  refine bq_step (fun h => by rw [if_pos h, avright_is (g.2.2.1 h)]; rfl) (fun h3 => ?_)
  rw [if_neg h3]
  refine bq_step (fun h => by rw [if_pos h, lright_is (g.2.2.2 h)]; rfl) (fun h4 => ?_)
  rw [if_neg h4]
theorem sparse_is {p : Int} {b : Bs} (hb : b.length ≤ 100000) : g_suite_Parse (p, b, ()) = some (trip (parseP p b), ()) := by
  rw [g_suite_Parse_eq]
  unfold parseP
  refine bq_step (fun h => by rw [if_pos h, parse_is hb]; rfl) (fun h1 => ?_)
  rw [if_neg h1]
  refine bq_step (fun h => by rw [if_pos h, ngparse_is (by omega)]; rfl) (fun h2 => ?_)
  rw [if_neg h2]
  refine bq_step (fun h => by rw [if_pos h, avparse_is (by omega)]; rfl) (fun h3 => ?_)
  rw [if_neg h3]
  refine bq_step (fun h => by rw [if_pos h, iparse_is]; rfl) (fun h4 => ?_)
  rw [if_neg h4]
theorem senc_is {p : Int} {l : List Msg} (g : ∀ m ∈ l, GoodP p m) (hl : l.length ≤ 100000) (h1 : p = 1 → l.length ≤ 1000) : g_suite_Encode (p, l, ()) = some (trip (encP p l), ()) := by
  rw [g_suite_Encode_eq]
  unfold encP
  refine bq_step (fun h => by rw [if_pos h, enc_is (fun m hm => (g m hm).1 h) (h1 h)]; rfl) (fun h1 => ?_)
  rw [if_neg h1]
  refine bq_step (fun h => by rw [if_pos h, ngenc_is (fun m hm => (g m hm).2.1 h) (by omega)]; rfl) (fun h2 => ?_)
  rw [if_neg h2]
  refine bq_step (fun h => by rw [if_pos h, avenc_is (fun m hm => (g m hm).2.2.1 h) (by omega)]; rfl) (fun h3 => ?_)
  rw [if_neg h3]
  refine bq_step (fun h => by rw [if_pos h, oenc_is hl (fun m hm => (g m hm).2.2.2 h)]; rfl) (fun h4 => ?_)
  rw [if_neg h4]
theorem enc_back2 {l : List Msg} (h : (encR l).2.2 = 0) : parseR (encR l).1 = (l, 0, 0) ∧ (encR l).1.length ≤ 504 := by
  unfold encR at h ⊢
  cases hb : badR l 0 with
  | some i => rw [hb] at h; simp at h
  | none =>
    rw [hb] at h
    have hok := badR_none hb
    cases l with
    | nil => simp at h
    | cons f r =>
      dsimp only at h ⊢
      have hmo : ((0 : Nat) : Int) ≤ mostR f := by unfold mostR; split <;> omega
      obtain ⟨h1, h2⟩ := encGo_ok (f :: r) 0 _ hmo h
      rw [enc_good (f :: r) 0 _ (by simpa using h1) h2]
      have ht : ∀ m ∈ r, togP f m := fun m hm => by
        obtain ⟨j, hj, e⟩ := List.mem_iff_getElem.1 hm
        have := h2 (j + 1) (by simpa using hj) (by omega)
        rw [List.getElem_cons_succ, e] at this
        exact this
      have hmo2 : (((f :: r).length : Nat) : Int) ≤ mostR f := by simpa using h1
      refine ⟨parse_back hok ht (fun c => ?_) hmo2, ?_⟩
      · cases r with
        | nil => rfl
        | cons x _ => exact absurd c (ht x (by simp)).2.2.2.2
      · have hfl := flat_len hok
        have hhl := headE_length (hok f (by simp))
        dsimp only
        rw [List.length_append, hfl]
        unfold mostR at hmo2
        by_cases ha : f.auth = []
        · rw [if_pos ha] at hmo2 hhl; omega
        · rw [if_neg ha] at hmo2 hhl; omega
theorem p_back {p : Int} {l : List Msg} (h : (encP p l).2.2 = 0) : parseP p (encP p l).1 = (l, 0, 0) ∧ (encP p l).1.length ≤ 65535 := by
  unfold encP at h ⊢
  unfold parseP
  by_cases h1 : p = 1
  · simp only [if_pos h1] at h ⊢
    have := enc_back2 h
    exact ⟨this.1, by omega⟩
  simp only [if_neg h1] at h ⊢
  by_cases h2 : p = 2
  · simp only [if_pos h2] at h ⊢; exact ng_back h
  simp only [if_neg h2] at h ⊢
  by_cases h3 : p = 3
  · simp only [if_pos h3] at h ⊢; exact av_back h
  simp only [if_neg h3] at h ⊢
  by_cases h4 : p = 4
  · simp only [if_pos h4] at h ⊢
    obtain ⟨hB, s, d, k1, k2, k3, k4, k5⟩ := encO_ok h
    have hp := parse_out k4 k2
    rw [k3] at k5 ⊢
    exact ⟨hp, by dsimp only at k5 ⊢; omega⟩
  · simp only [if_neg h4] at h; cases h
theorem p_parseerr {p : Int} {b : Bs} (h : (parseP p b).2.2 ≠ 0) : (parseP p b).1 = [] ∧ 0 ≤ (parseP p b).2.1 ∧ (parseP p b).2.1 ≤ b.length := by
  unfold parseP at h ⊢
  by_cases h1 : p = 1
  · simp only [if_pos h1] at h ⊢; exact parseR_err h
  simp only [if_neg h1] at h ⊢
  by_cases h2 : p = 2
  · simp only [if_pos h2] at h ⊢; exact ng_parseerr h
  simp only [if_neg h2] at h ⊢
  by_cases h3 : p = 3
  · simp only [if_pos h3] at h ⊢; exact av_parseerr h
  simp only [if_neg h3] at h ⊢
  by_cases h4 : p = 4
  · simp only [if_pos h4] at h ⊢; exact parseI_place h
  · simp only [if_neg h4] at h ⊢
    exact ⟨trivial, by simp, by simp⟩
theorem ngR_good {m : Msg} (h : NgR m) : GoodG m ∧ Small m := by
  have hl : m.list = [] := congrArg S_api_Msg.list h.is
  have hs : m.subs = [] := congrArg S_api_Msg.subs h.is
  have := h.tag
  have := h.plen
  have := h.cmd
  exact ⟨⟨has64.2 (by omega), has64.2 (by omega), has64.2 (by omega), by rw [hl]; simp, by rw [hs]; simp⟩, by rw [hl]; simp, by rw [hs]; simp⟩
theorem rm_parse2 {b : Bs} : ∀ m ∈ (parseR b).1, okR m → RM m := fun m hm ho => by
  have hs := parseR_all (b := b) (P := fun m => m.list.length ≤ 1000000000 ∧ m.subs.length ≤ 1000000000) (fun c v s e => by simp [routeM]) m hm
  obtain ⟨_, _, _, _, _, _, _, h⟩ := ho
  exact ⟨has64.2 (by omega), has64.2 (by omega), hs.1, hs.2⟩
theorem p_parsed {p : Int} {b : Bs} (hb : b.length ≤ 100000) (h : (parseP p b).2.2 = 0) : (parseP p b).2.1 = 0 ∧ (∀ m ∈ (parseP p b).1, rightP p m = true ∧ GoodP p m ∧ Small m) ∧ (parseP p b).1.length ≤ 65535 ∧ (p = 1 → (parseP p b).1.length ≤ 1000) := by
  unfold parseP at h ⊢
  unfold rightP GoodP
  by_cases h1 : p = 1
  · simp only [if_pos h1] at h ⊢
    obtain ⟨r, r1, r2, r3, r4, r5⟩ := parse_good h
    have hrm := rm_parse2 (b := b)
    rw [r1] at hrm ⊢
    exact ⟨rfl, fun m hm => ⟨rightR_true.2 (r4 m hm), ⟨fun _ => hrm m hm (r4 m hm), fun q => by omega, fun q => by omega, fun q => by omega⟩, (hrm m hm (r4 m hm)).list, (hrm m hm (r4 m hm)).subs⟩, by dsimp only; omega, fun _ => by dsimp only; omega⟩
  simp only [if_neg h1] at h ⊢
  by_cases h2 : p = 2
  · simp only [if_pos h2] at h ⊢
    obtain ⟨k0, k1, k2, k3, _, _⟩ := ng_again h
    exact ⟨k0, fun m hm => ⟨ngR_iff.2 (k1 m hm), ⟨fun q => by omega, fun _ => (ngR_good (k1 m hm)).1, fun q => by omega, fun q => by omega⟩, (ngR_good (k1 m hm)).2⟩, by omega, fun q => absurd q h1⟩
  simp only [if_neg h2] at h ⊢
  by_cases h3 : p = 3
  · simp only [if_pos h3] at h ⊢
    obtain ⟨m, k1, k2, k3, k4, k5, k6⟩ := av_again h
    rw [k1]
    have hg := avB_good k2 (by omega)
    exact ⟨rfl, fun x hx => by rw [List.mem_singleton.1 hx]; exact ⟨k2, ⟨fun q => by omega, fun q => by omega, fun _ => hg, fun q => by omega⟩, by have := hg.list; omega, by have := hg.subs1; omega⟩, by simp, fun q => absurd q h1⟩
  simp only [if_neg h3] at h ⊢
  by_cases h4 : p = 4
  · simp only [if_pos h4] at h ⊢
    obtain ⟨k1, k2⟩ := parseI_right b
    refine ⟨?_, fun m hm => ⟨leanR_iff.2 (k1 m hm).1, ⟨fun q => by omega, fun q => by omega, fun q => by omega, fun _ => (k1 m hm).2⟩, (k1 m hm).2.small⟩, k2, fun q => absurd q h1⟩
    rcases parseI_cases b with ⟨q, _⟩ | ⟨l, _, _, _, _, q⟩
    · exact absurd h q
    · rw [q]
  · simp only [if_neg h4] at h; cases h
end Go.VP
set_option linter.unusedVariables false
set_option linter.unusedSimpArgs false
set_option maxRecDepth 100000
namespace Go.VP
open Go Go.VI
abbrev quad {α β γ δ : Type} (x : α × β × γ × δ) : α × β × γ × δ × Unit := (x.1, x.2.1, x.2.2.1, x.2.2.2, ())
noncomputable def joinGo (p : Int) : List Bs → Nat → List Msg → List Msg × Int × Int × Int
  | [], _, acc => (acc, 0, 0, 0)
  | b :: r, i, acc => if (parseP p b).2.2 ≠ 0 then ([], (i : Int), (parseP p b).2.1, (parseP p b).2.2) else joinGo p r (i + 1) (acc ++ (parseP p b).1)
noncomputable def joinP (p : Int) (d : List Bs) : List Msg × Int × Int × Int := if p < 1 ∨ 4 < p then ([], 0, 0, 1) else joinGo p d 0 []
theorem parse_len {p : Int} {b : Bs} (hb : b.length ≤ 100000) : (parseP p b).1.length ≤ 65535 := by
  by_cases h : (parseP p b).2.2 = 0
  · exact (p_parsed hb h).2.2.1
  · rw [(p_parseerr h).1]; simp
theorem room_msgs {a b : Nat} (h : a + b ≤ 300000000) : roomB ((a + b) * bo_api_Msg) = true :=
  roomB_of (Nat.le_trans (Nat.mul_le_mul h msgBo) (by decide))
theorem join_loop {n : Nat} {p : Int} {d : List Bs} (hd : d.length ≤ 1000) (hb : ∀ b ∈ d, b.length ≤ 100000) : ∀ (k m i : Nat) (acc : List Msg), i + k = d.length → k < m → acc.length ≤ 65535 * i →
    L_join_Join_0 n m p d acc i = some (quad (joinGo p (d.drop i) i acc), ()) := by
  intro k
  induction k with
  | zero =>
    intro m i acc h hm ha
    obtain ⟨m, rfl⟩ : ∃ j, m = j + 1 := ⟨m - 1, by omega⟩
    rw [L_join_Join_0_eq, ifn (by omega), List.drop_eq_nil_of_le (by omega)]; rfl
  | succ k ih =>
    intro m i acc h hm ha
    obtain ⟨m, rfl⟩ : ∃ j, m = j + 1 := ⟨m - 1, by omega⟩
    have hi : i < d.length := by omega
    have hl := hb _ (List.getElem_mem hi)
    have hpl := parse_len (p := p) hl
    rw [L_join_Join_0_eq, ifd (by omega), if_pos (by omega), Int.toNat_natCast, bind_at hi, sparse_is hl, Option.bind_some, List.drop_eq_getElem_cons hi, joinGo]
    refine ne_step (fun q => ?_) (fun q => ?_)
    · rw [if_pos q]
    · have := ih m (i + 1) (acc ++ (parseP p d[i]).1) (by omega) (by omega) (by rw [List.length_append]; omega)
      rw [show ((i + 1 : Nat) : Int) = (i : Int) + 1 by omega] at this
      rw [if_neg (show ¬ (parseP p d[i]).2.2 ≠ 0 from fun c => c q), w64 (by omega) (by omega), ← this]
      exact if_pos (room_msgs (a := acc.length) (b := (parseP p d[i]).1.length) (by omega))
theorem join_is {p : Int} {d : List Bs} (hd : d.length ≤ 1000) (hb : ∀ b ∈ d, b.length ≤ 100000) : g_join_Join (p, d, ()) = some (quad (joinP p d), ()) := by
  show h_join_Join fuel _ = _
  rw [h_join_Join_eq]
  unfold joinP
  refine dq_step (fun h => by rw [if_pos (Or.inl h)]) (fun h1 => ?_)
  refine dq_step (fun h => by rw [if_pos (Or.inr h)]) (fun h2 => ?_)
  rw [if_neg (show ¬ (p < 1 ∨ 4 < p) by omega)]
  exact join_loop (n := fuel) hd hb d.length fuel 0 [] (by omega) (fuel_ge (by omega)) (by simp)
end Go.VP
set_option linter.unusedVariables false
set_option linter.unusedSimpArgs false
set_option maxRecDepth 100000
namespace Go.VP
open Go Go.VI
noncomputable def fitsP (p most : Int) (l : List Msg) : Bool := decide ((encP p l).2.2 = 0 ∧ ((encP p l).1.length : Int) ≤ most)
theorem dat_is {p most : Int} {l : List Msg} (g : ∀ m ∈ l, GoodP p m) (hl : l.length ≤ 1000) : g_pack_datagram (p, l, most, ()) = some (((encP p l).1, fitsP p most l, ()), ()) := by
  rw [g_pack_datagram_eq, senc_is g (by omega) (fun _ => hl), Option.bind_some]
  unfold fitsP
  refine bq_step (fun q => ?_) (fun q => ?_)
  · by_cases h : ((encP p l).1.length : Int) ≤ most
    · rw [decide_eq_true (show (encP p l).2.2 = 0 ∧ _ from ⟨q, h⟩)]; dsimp only [trip]; rw [decide_eq_true h]
    · rw [decide_eq_false (show ¬ ((encP p l).2.2 = 0 ∧ _) from fun c => h c.2)]; dsimp only [trip]; rw [decide_eq_false h]
  · rw [decide_eq_false (show ¬ ((encP p l).2.2 = 0 ∧ _) from fun c => q c.1)]
theorem pfits_is {p most : Int} {l : List Msg} (g : ∀ m ∈ l, GoodP p m) (hl : l.length ≤ 1000) : g_pack_Fits (p, l, most, ()) = some ((fitsP p most l, ()), ()) := by
  rw [g_pack_Fits_eq, dat_is g hl]; rfl
noncomputable def cnt (p most : Int) (l : List Msg) : Nat → Nat → Nat
  | 0, n => n
  | k + 1, n => if fitsP p most (l.take (n + 1)) = true then cnt p most l k (n + 1) else n
noncomputable def cntP (p most : Int) (l : List Msg) : Nat := cnt p most l l.length 0
theorem cnt_rng {p most : Int} {l : List Msg} : ∀ (k n : Nat), n ≤ cnt p most l k n ∧ cnt p most l k n ≤ n + k
  | 0, n => ⟨Nat.le_refl _, Nat.le_refl _⟩
  | k + 1, n => by
    unfold cnt
    split
    · have := cnt_rng (p := p) (most := most) (l := l) k (n + 1); omega
    · omega
theorem cnt_fits {p most : Int} {l : List Msg} : ∀ (k n : Nat), n < cnt p most l k n → fitsP p most (l.take (cnt p most l k n)) = true
  | 0, n, h => by unfold cnt at h; omega
  | k + 1, n, h => by
    unfold cnt at h ⊢
    split at h
    · rename_i hf
      rw [if_pos hf]
      by_cases q : n + 1 < cnt p most l k (n + 1)
      · exact cnt_fits k (n + 1) q
      · have := cnt_rng (p := p) (most := most) (l := l) k (n + 1)
        rw [show cnt p most l k (n + 1) = n + 1 by omega]; exact hf
    · omega
theorem cnt_stop {p most : Int} {l : List Msg} : ∀ (k n : Nat), cnt p most l k n < n + k → fitsP p most (l.take (cnt p most l k n + 1)) = false
  | 0, n, h => by unfold cnt at h; omega
  | k + 1, n, h => by
    unfold cnt at h ⊢
    split at h
    · rename_i hf
      rw [if_pos hf]; exact cnt_stop k (n + 1) (by omega)
    · rename_i hf
      rw [if_neg hf]; exact b_no hf
noncomputable def chunks (p most : Int) : Nat → List Msg → List (List Msg)
  | 0, _ => []
  | k + 1, l => if l = [] then [] else l.take (cntP p most l) :: chunks p most k (l.drop (cntP p most l))
noncomputable def packD (p most : Int) (l : List Msg) : List Bs := (chunks p most l.length l).map fun c => (encP p c).1
noncomputable def lastD (p : Int) (l : List Msg) (n : Nat) : Bs := if n = 0 then [] else (encP p (l.take n)).1
theorem strBo : bo_string ≤ 100000 := Nat.le_of_ble_eq_true (by kernel_rfl)
theorem pack1_loop {n m0 : Nat} {p most : Int} {l : List Msg} {acc : List Bs} (hl : l.length ≤ 1000) (ha : acc.length ≤ 1000) (g : ∀ m ∈ l, GoodP p m) : ∀ (d k i : Nat), i + d = l.length → d < k →
    L_pack_Pack_1 n m0 k p l most acc (lastD p l i) i = L_pack_Pack_0 n m0 p most (l.drop (cnt p most l d i)) (acc ++ [lastD p l (cnt p most l d i)]) := by
  have fin : ∀ (i : Nat), i ≤ l.length → (if roomB ((acc.length + [lastD p l i].length) * bo_string) = true then (if 0 ≤ (i : Int) ∧ (i : Int) ≤ (l.length : Int) then (L_pack_Pack_0 n m0 p most (l.drop (i : Int).toNat) (acc ++ [lastD p l i])) else none) else none) = L_pack_Pack_0 n m0 p most (l.drop i) (acc ++ [lastD p l i]) := fun i hi => by
    rw [if_pos (roomB_of (Nat.le_trans (Nat.mul_le_mul (show acc.length + [lastD p l i].length ≤ 1001 by simp; omega) strBo) (by decide))), if_pos (by omega), Int.toNat_natCast]
  intro d
  induction d with
  | zero =>
    intro k i h hk
    obtain ⟨k, rfl⟩ : ∃ j, k = j + 1 := ⟨k - 1, by omega⟩
    rw [L_pack_Pack_1_eq, ifn (by omega), cnt]
    exact fin i (by omega)
  | succ d ih =>
    intro k i h hk
    obtain ⟨k, rfl⟩ : ∃ j, k = j + 1 := ⟨k - 1, by omega⟩
    have hg : ∀ m ∈ l.take (i + 1), GoodP p m := fun m hm => g m (List.mem_of_mem_take hm)
    rw [L_pack_Pack_1_eq, ifd (by omega), w64 (x := (i : Int) + 1) (by omega) (by omega), if_pos (by omega), show ((i : Int) + 1).toNat = i + 1 by omega, dat_is hg (by rw [List.length_take]; omega), Option.bind_some, cnt]
    dsimp only
    cases hf : fitsP p most (l.take (i + 1)) with
    | false =>
      rw [ifnf, iff_]
      exact fin i (by omega)
    | true =>
      rw [ifnt, ift]
      have := ih k (i + 1) (by omega) (by omega)
      rw [show ((i + 1 : Nat) : Int) = (i : Int) + 1 by omega, show lastD p l (i + 1) = (encP p (l.take (i + 1))).1 by unfold lastD; rw [if_neg (by omega)]] at this
      exact this
theorem cntP_pos {p most : Int} {m : Msg} {r : List Msg} (h : fitsP p most [m] = true) : 1 ≤ cntP p most (m :: r) := by
  unfold cntP
  rw [List.length_cons, cnt]
  rw [if_pos (by simpa using h)]
  exact (cnt_rng _ _).1
theorem cntP_le {p most : Int} {l : List Msg} : cntP p most l ≤ l.length := by
  have := (cnt_rng (p := p) (most := most) (l := l) l.length 0).2
  unfold cntP; omega
theorem pack0_loop {n : Nat} {p most : Int} (hn : 2000 ≤ n) : ∀ (d k : Nat) (l : List Msg) (acc : List Bs), l.length ≤ d → d < k → l.length + acc.length ≤ 1000 → (∀ m ∈ l, GoodP p m ∧ fitsP p most [m] = true) →
    L_pack_Pack_0 n k p most l acc = some ((acc ++ (chunks p most d l).map (fun c => (encP p c).1), 0, 0, ()), ()) := by
  intro d
  induction d with
  | zero =>
    intro k l acc hd hk hl g
    obtain ⟨k, rfl⟩ : ∃ j, k = j + 1 := ⟨k - 1, by omega⟩
    rw [L_pack_Pack_0_eq, ifn (by omega)]
    simp [chunks]
  | succ d ih =>
    intro k l acc hd hk hl g
    obtain ⟨k, rfl⟩ : ∃ j, k = j + 1 := ⟨k - 1, by omega⟩
    rw [L_pack_Pack_0_eq]
    cases l with
    | nil => rw [ifn (by simp)]; simp [chunks]
    | cons m r =>
      have h1 := cntP_pos (r := r) (g m (by simp)).2
      have h2 := cntP_le (p := p) (most := most) (l := m :: r)
      have := pack1_loop (n := n) (m0 := k) (most := most) (acc := acc) (l := m :: r) (by simp at hl ⊢; omega) (by omega) (fun x hx => (g x hx).1) (m :: r).length n 0 (by omega) (by simp at hl ⊢; omega)
      rw [show lastD p (m :: r) 0 = [] from rfl, show ((0 : Nat) : Int) = 0 from rfl, show cnt p most (m :: r) (m :: r).length 0 = cntP p most (m :: r) from rfl] at this
      rw [ifd (by simp only [List.length_cons]; omega), this, ih k _ _ (by rw [List.length_drop]; simp at hd h2 ⊢; omega) (by omega) (by rw [List.length_drop, List.length_append]; simp at hl h2 ⊢; omega) (fun x hx => g x (List.mem_of_mem_drop hx))]
      have hc : chunks p most (d + 1) (m :: r) = (m :: r).take (cntP p most (m :: r)) :: chunks p most d ((m :: r).drop (cntP p most (m :: r))) := by rw [chunks, if_neg (by simp)]
      rw [hc, List.map_cons, List.append_assoc]
      have hld : lastD p (m :: r) (cntP p most (m :: r)) = (encP p ((m :: r).take (cntP p most (m :: r)))).1 := by unfold lastD; rw [if_neg (by omega)]
      rw [hld]; rfl
theorem one_at {l : List Msg} {i : Nat} (h : i < l.length) : (l.take (i + 1)).drop i = [l[i]] := by
  rw [List.take_succ_eq_append_getElem h, List.drop_left' (by rw [List.length_take]; omega)]
noncomputable def checkP (p most : Int) (l : List Msg) : Int × Int :=
  if p < 1 ∨ 4 < p then (0, 1) else match badP (rightP p) l 0 with
    | some i => ((i : Int), 1)
    | none => match badP (fun m => fitsP p most [m]) l 0 with
      | some i => ((i : Int), 11)
      | none => (0, 0)
theorem check1_loop {n : Nat} {p most : Int} {l : List Msg} (hl : l.length ≤ 1000) (g : ∀ m ∈ l, GoodP p m) : ∀ (d k i : Nat), i + d = l.length → d < k →
    L_pack_check_1 n k p l most i = some ((match badP (fun m => fitsP p most [m]) (l.drop i) i with | some j => (((j : Nat) : Int), 11, ()) | none => (0, 0, ())), ()) := by
  intro d
  induction d with
  | zero =>
    intro k i h hk
    obtain ⟨k, rfl⟩ : ∃ j, k = j + 1 := ⟨k - 1, by omega⟩
    rw [L_pack_check_1_eq, ifn (by omega), List.drop_eq_nil_of_le (by omega)]; rfl
  | succ d ih =>
    intro k i h hk
    obtain ⟨k, rfl⟩ : ∃ j, k = j + 1 := ⟨k - 1, by omega⟩
    have hi : i < l.length := by omega
    have := ih k (i + 1) (by omega) (by omega)
    rw [show ((i + 1 : Nat) : Int) = (i : Int) + 1 by omega] at this
    rw [L_pack_check_1_eq, ifd (by omega), w64 (x := (i : Int) + 1) (by omega) (by omega), if_pos (by omega), show ((i : Int) + 1).toNat = i + 1 by omega, Int.toNat_natCast, one_at hi, pfits_is (fun m hm => by rw [List.mem_singleton.1 hm]; exact g _ (List.getElem_mem hi)) (by simp), Option.bind_some, List.drop_eq_getElem_cons hi, badP]
    dsimp only
    cases hf : fitsP p most [l[i]] with
    | false => rw [ifnf, iff_]
    | true => rw [ifnt, ift]; exact this
theorem check_is {p most : Int} {l : List Msg} (hl : l.length ≤ 1000) (g : ∀ m ∈ l, GoodP p m) : g_pack_check (p, l, most, ()) = some (((checkP p most l).1, (checkP p most l).2, ()), ()) := by
  show h_pack_check fuel _ = _
  rw [h_pack_check_eq]
  unfold checkP
  refine dq_step (fun h => by rw [if_pos (Or.inl h)]) (fun h1 => ?_)
  refine dq_step (fun h => by rw [if_pos (Or.inr h)]) (fun h2 => ?_)
  rw [if_neg (show ¬ (p < 1 ∨ 4 < p) by omega)]
  have main : ∀ (d k i : Nat), i + d = l.length → d < k → L_pack_check_0 fuel k p l most i = some ((match badP (rightP p) (l.drop i) i with | some j => (((j : Nat) : Int), 1, ()) | none => (match badP (fun m => fitsP p most [m]) l 0 with | some j => (((j : Nat) : Int), 11, ()) | none => (0, 0, ()))), ()) := by
    intro d
    induction d with
    | zero =>
      intro k i h hk
      obtain ⟨k, rfl⟩ : ∃ j, k = j + 1 := ⟨k - 1, by omega⟩
      have := check1_loop (n := fuel) (most := most) hl g l.length fuel 0 (by omega) (fuel_ge (by omega))
      rw [List.drop_zero, show ((0 : Nat) : Int) = 0 from rfl] at this
      rw [L_pack_check_0_eq, ifn (by omega), List.drop_eq_nil_of_le (by omega), this]; rfl
    | succ d ih =>
      intro k i h hk
      obtain ⟨k, rfl⟩ : ∃ j, k = j + 1 := ⟨k - 1, by omega⟩
      have hi : i < l.length := by omega
      have := ih k (i + 1) (by omega) (by omega)
      rw [show ((i + 1 : Nat) : Int) = (i : Int) + 1 by omega] at this
      rw [L_pack_check_0_eq, ifd (by omega), if_pos (by omega), Int.toNat_natCast, bind_at hi, sright_p (g _ (List.getElem_mem hi)), Option.bind_some, w64 (by omega) (by omega), List.drop_eq_getElem_cons hi, badP]
      dsimp only
      cases hf : rightP p l[i] with
      | false => rw [ifnf, iff_]
      | true => rw [ifnt, ift]; exact this
  have := main l.length fuel 0 (by omega) (fuel_ge (by omega))
  rw [List.drop_zero, show ((0 : Nat) : Int) = 0 from rfl] at this
  rw [this]
  cases badP (rightP p) l 0 with
  | some i => rfl
  | none => cases badP (fun m => fitsP p most [m]) l 0 <;> rfl
noncomputable def packP (p most : Int) (l : List Msg) : List Bs × Int × Int := if (checkP p most l).2 ≠ 0 then ([], checkP p most l) else (packD p most l, 0, 0)
theorem checkP_ok {p most : Int} {l : List Msg} (h : (checkP p most l).2 = 0) : 1 ≤ p ∧ p ≤ 4 ∧ (∀ m ∈ l, rightP p m = true ∧ fitsP p most [m] = true) := by
  unfold checkP at h
  split at h
  · cases h
  · rename_i hp
    split at h
    · cases h
    · rename_i h1
      split at h
      · cases h
      · rename_i h2
        exact ⟨by omega, by omega, fun m hm => ⟨badP_none h1 m hm, badP_none h2 m hm⟩⟩
theorem pack_is {p most : Int} {l : List Msg} (hl : l.length ≤ 1000) (g : ∀ m ∈ l, GoodP p m) : g_pack_Pack (p, l, most, ()) = some (trip (packP p most l), ()) := by
  show h_pack_Pack fuel _ = _
  rw [h_pack_Pack_eq, check_is hl g, Option.bind_some]
  unfold packP
  refine ne_step (fun q => by rw [if_pos q]) (fun q => ?_)
  rw [if_neg (show ¬ (checkP p most l).2 ≠ 0 from fun c => c q)]
  have hc := (checkP_ok (show (checkP p most l).2 = 0 from q)).2.2
  rw [pack0_loop (n := fuel) (Nat.le_of_lt (fuel_ge (by omega))) l.length fuel l [] (Nat.le_refl _) (fuel_ge (by omega)) (by simp; omega) (fun m hm => ⟨g m hm, (hc m hm).2⟩)]
  rfl
theorem chunks_ok {p most : Int} : ∀ (k : Nat) (l : List Msg), l.length ≤ k → (∀ m ∈ l, fitsP p most [m] = true) → (chunks p most k l).flatten = l ∧ (∀ c ∈ chunks p most k l, c ≠ [] ∧ fitsP p most c = true) ∧ (chunks p most k l).length ≤ l.length
  | 0, l, h, _ => by
    have : l = [] := List.eq_nil_of_length_eq_zero (by omega)
    subst this
    exact ⟨rfl, (fun c hc => by cases hc), Nat.le_refl _⟩
  | k + 1, [], h, _ => ⟨by simp [chunks], (fun c hc => by simp [chunks] at hc), by simp [chunks]⟩
  | k + 1, m :: r, h, hf => by
    have h1 := cntP_pos (r := r) (hf m (by simp))
    have h2 := cntP_le (p := p) (most := most) (l := m :: r)
    have hc : chunks p most (k + 1) (m :: r) = (m :: r).take (cntP p most (m :: r)) :: chunks p most k ((m :: r).drop (cntP p most (m :: r))) := by rw [chunks, if_neg (by simp)]
    have hfit : fitsP p most ((m :: r).take (cntP p most (m :: r))) = true := cnt_fits _ _ h1
    have hdl : ((m :: r).drop (cntP p most (m :: r))).length = (m :: r).length - cntP p most (m :: r) := List.length_drop
    obtain ⟨k1, k2, k3⟩ := chunks_ok k ((m :: r).drop (cntP p most (m :: r))) (by omega) (fun x hx => hf x (List.mem_of_mem_drop hx))
    rw [hc]
    refine ⟨by rw [List.flatten_cons, k1, List.take_append_drop], fun c hcc => ?_, by rw [List.length_cons]; omega⟩
    rcases List.mem_cons.1 hcc with rfl | hcc
    · refine ⟨fun q => ?_, hfit⟩
      have := congrArg List.length q
      rw [List.length_take] at this
      simp only [List.length_nil] at this
      omega
    · exact k2 c hcc
end Go.VP
set_option linter.unusedVariables false
set_option linter.unusedSimpArgs false
set_option maxRecDepth 100000
namespace Go.VP
open Go Go.VI
theorem kind4 {x : Int} (h : 0 ≤ x ∧ x ≤ 255) : 1 ≤ IntKind.wrap .i64 (1 + IntKind.wrap .i64 (x.tmod 4)) ∧ IntKind.wrap .i64 (1 + IntKind.wrap .i64 (x.tmod 4)) ≤ 4 := by
  rw [Int.tmod_eq_emod_of_nonneg h.1, w64 (x := x % 4) (by omega) (by omega), w64 (by omega) (by omega)]; omega
theorem fitsP_ok {p most : Int} {l : List Msg} (h : fitsP p most l = true) : (encP p l).2.2 = 0 ∧ ((encP p l).1.length : Int) ≤ most := by
  unfold fitsP at h; exact of_decide_eq_true h
theorem checkP_place {p most : Int} {l : List Msg} (hp : 1 ≤ p ∧ p ≤ 4) (h : (checkP p most l).2 ≠ 0) : 0 ≤ (checkP p most l).1 ∧ (checkP p most l).1 < l.length := by
  unfold checkP at h ⊢
  rw [if_neg (by omega)] at h ⊢
  cases h1 : badP (rightP p) l 0 with
  | some i => have := badP_some h1; dsimp only; omega
  | none =>
    rw [h1] at h
    cases h2 : badP (fun m => fitsP p most [m]) l 0 with
    | some i => have := badP_some h2; dsimp only; omega
    | none => rw [h2] at h; exact absurd rfl h
end Go.VP
set_option linter.unusedVariables false
set_option linter.unusedSimpArgs false
set_option maxRecDepth 100000
namespace Go.VP
open Go Go.VI
theorem joinGo_packs {p : Int} : ∀ (C : List (List Msg)) (i : Nat) (acc : List Msg), (∀ c ∈ C, (encP p c).2.2 = 0) → joinGo p (C.map fun c => (encP p c).1) i acc = (acc ++ C.flatten, 0, 0, 0)
  | [], i, acc, _ => by simp [joinGo]
  | c :: r, i, acc, h => by
    rw [List.map_cons, joinGo, (p_back (h c (List.mem_cons_self ..))).1, if_neg (show ¬ ((c, (0 : Int), (0 : Int)) : List Msg × Int × Int).2.2 ≠ 0 from fun q => q rfl), joinGo_packs r _ _ (fun x hx => h x (List.mem_cons_of_mem _ hx)), List.flatten_cons, List.append_assoc]
end Go.VP
set_option linter.unusedVariables false
set_option linter.unusedSimpArgs false
set_option maxRecDepth 100000
namespace Go.VP
open Go Go.VI
theorem awakeT : g_top_awake () = some ((true, ()), ()) := by kernel_rfl
theorem awbT {α : Type} (f : (Bool × Unit) × Unit → Option α) : (g_top_awake ()).bind f = f ((true, ()), ()) := by rw [awakeT]; rfl
end Go.VP
