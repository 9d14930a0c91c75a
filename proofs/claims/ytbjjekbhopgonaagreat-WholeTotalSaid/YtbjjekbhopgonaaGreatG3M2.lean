import Derived.Test.YtbjjekbhopgonaaGreatG3FH
import Derived.Test.YtbjjekbhopgonaaGreatG3FQ7
import Derived.Test.YtbjjekbhopgonaaGreatG3M0
import Derived.Test.YtbjjekbhopgonaaGreatG3M1
import Derived.Test.YtbjjekbhopgonaaGreatG3FQ3
import Derived.Test.YtbjjekbhopgonaaGreatG3FQ8
import Derived.Test.YtbjjekbhopgonaaGreatG3FQ15
import Derived.Test.YtbjjekbhopgonaaGreatG3FGood
import Derived.Test.YtbjjekbhopgonaaGreatG3FQ4
set_option linter.unusedVariables false
set_option linter.unusedSimpArgs false
set_option maxRecDepth 100000
namespace Go.VP
open Go Go.VI
def W32 (n : Int) : Prop := 0 ≤ n ∧ n < 4294967296
def W8 (n : Int) : Prop := 0 ≤ n ∧ n < 256
theorem fitsB4 {n : Int} : fitsB n 4 = true ↔ W32 n := by simp [fitsB, W32]
theorem fitsB1 {n : Int} : fitsB n 1 = true ↔ W8 n := by simp [fitsB, W8]
theorem rf4 {n : Int} : g_ref02_Fits (n, 4, ()) = some ((fitsB n 4, ()), ()) := rfits_is (k := 4) (by omega) (by omega)
theorem rf1 {n : Int} : g_ref02_Fits (n, 1, ()) = some ((fitsB n 1, ()), ()) := rfits_is (k := 1) (by omega) (by omega)
structure RqR (m : Msg) : Prop where
  kind : m.kind = 3
  bare : bareB m = true
  flags : 0 ≤ m.flags ∧ m.flags ≤ 31
  addr : m.addr.length = 4
  orig : m.orig.length = 4
  nonce : W32 m.nonce
  seq : W32 m.seq
  seq2 : W32 m.seq2
  hops : W8 m.hops
  subs : extB m.subs = true
structure RpR (m : Msg) : Prop where
  kind : m.kind = 4
  bare : bareB m = true
  flags : 0 ≤ m.flags ∧ m.flags ≤ 3
  plen : 0 ≤ m.plen ∧ m.plen ≤ 31
  addr : m.addr.length = 4
  orig : m.orig.length = 4
  seq : W32 m.seq
  life : W32 m.interval
  hops : W8 m.hops
  subs : extB m.subs = true
structure AkR (m : Msg) : Prop where
  kind : m.kind = 6
  bare : bareB m = true
  subs : extB m.subs = true
def destB (d : Dest) : Bool := decide (d.addr.length = 4) && fitsB d.seq 4
structure ReR (m : Msg) : Prop where
  kind : m.kind = 5
  bare : bareB m = true
  flags : m.flags = 0 ∨ m.flags = 1
  len : 1 ≤ m.list.length ∧ m.list.length ≤ 255
  list : m.list.all destB = true
  subs : extB m.subs = true
open Classical in
noncomputable def rqB (m : Msg) : Bool := decide (RqR m)
open Classical in
noncomputable def rpB (m : Msg) : Bool := decide (RpR m ∨ AkR m)
open Classical in
noncomputable def reB (m : Msg) : Bool := decide (ReR m)
theorem rqB_iff {m : Msg} : rqB m = true ↔ RqR m := by simp [rqB]
theorem rpB_iff {m : Msg} : rpB m = true ↔ (RpR m ∨ AkR m) := by simp [rpB]
theorem reB_iff {m : Msg} : reB m = true ↔ ReR m := by simp [reB]
theorem b_eq {a b : Bool} (h : a = true ↔ b = true) : a = b := by cases a <;> cases b <;> simp_all
theorem b_no {b : Bool} (h : ¬ b = true) : b = false := by cases b <;> simp_all
structure GoodV (m : Msg) : Prop where
  nonce : IntKind.has .i64 m.nonce
  seq : IntKind.has .i64 m.seq
  seq2 : IntKind.has .i64 m.seq2
  hops : IntKind.has .i64 m.hops
  life : IntKind.has .i64 m.interval
  list : m.list.length ≤ 1000000
  ds : ∀ d ∈ m.list, IntKind.has .i64 d.seq
  subs : FewS m.subs
  subs1 : m.subs.length ≤ 1000000
theorem rqB_all {m : Msg} (hk : m.kind = 3) (hb : bareB m = true) (h0 : 0 ≤ m.flags) (h1 : m.flags ≤ 31) (ha : m.addr.length = 4) (ho : m.orig.length = 4) : rqB m = (fitsB m.nonce 4 && (fitsB m.seq 4 && (fitsB m.seq2 4 && (fitsB m.hops 1 && extB m.subs)))) := by
  apply b_eq
  simp only [Bool.and_eq_true, rqB_iff, fitsB4, fitsB1]
  exact ⟨fun h => ⟨h.nonce, h.seq, h.seq2, h.hops, h.subs⟩, fun ⟨a, b, c, d, e⟩ => ⟨hk, hb, ⟨h0, h1⟩, ha, ho, a, b, c, d, e⟩⟩
theorem rrqright_is {m : Msg} (g : GoodV m) : g_ref14_Right (m, ()) = some ((rqB m, ()), ()) := by
  have no : ¬ RqR m → (some ((false, ()), ()) : Option ((Bool × Unit) × Unit)) = some ((rqB m, ()), ()) := fun h => by rw [b_no (fun q => h (rqB_iff.1 q))]
  have gl := g.list
  rw [g_ref14_Right_eq]
  refine bq_step (fun hk => ?_) (fun q => no (fun h => q h.kind))
  rw [rbare_is (by omega) g.subs.1, Option.bind_some]
  dsimp only
  cases hb : bareB m with
  | false => exact no (fun h => by have := h.bare; rw [hb] at this; cases this)
  | true =>
    rw [ift]
    refine dq_step' (fun h0 => ?_) (fun q => no (fun h => by have := h.flags; omega))
    refine dq_step' (fun h1 => ?_) (fun q => no (fun h => by have := h.flags; omega))
    rw [rf1, Option.bind_some, rf4, Option.bind_some, rf4, Option.bind_some, rf4, Option.bind_some, reright_is g.subs.1, Option.bind_some]
    dsimp only
    cases c1 : fitsB m.hops 1 with
    | false => exact no (fun h => by have := fitsB1.2 h.hops; rw [c1] at this; cases this)
    | true => cases c2 : fitsB m.nonce 4 with
      | false => exact no (fun h => by have := fitsB4.2 h.nonce; rw [c2] at this; cases this)
      | true => cases c3 : fitsB m.seq 4 with
        | false => exact no (fun h => by have := fitsB4.2 h.seq; rw [c3] at this; cases this)
        | true => cases c4 : fitsB m.seq2 4 with
          | false => exact no (fun h => by have := fitsB4.2 h.seq2; rw [c4] at this; cases this)
          | true =>
            rw [ift, ift, ift, ift]
            refine bq_step (fun ha => ?_) (fun q => no (fun h => by have := h.addr; omega))
            refine bq_step (fun ho => ?_) (fun q => no (fun h => by have := h.orig; omega))
            rw [rqB_all hk hb h0 h1 (by omega) (by omega), c1, c2, c3, c4]
            rfl
theorem rpB_all {m : Msg} (hk : m.kind = 4) (hb : bareB m = true) (hs : extB m.subs = true) (h0 : 0 ≤ m.flags) (h1 : m.flags ≤ 3) (h2 : 0 ≤ m.plen) (h3 : m.plen ≤ 31) (c1 : fitsB m.hops 1 = true) (c2 : fitsB m.seq 4 = true) (c3 : fitsB m.interval 4 = true) (ha : m.addr.length = 4) : rpB m = ((m.orig.length : Int) == 4) := by
  apply b_eq
  simp only [rpB_iff, beq_iff_eq]
  constructor
  · rintro (h | h)
    · have := h.orig; omega
    · have := h.kind; omega
  · intro ho
    exact .inl ⟨hk, hb, ⟨h0, h1⟩, ⟨h2, h3⟩, ha, by omega, fitsB4.1 c2, fitsB4.1 c3, fitsB1.1 c1, hs⟩
theorem rrpright_is {m : Msg} (g : GoodV m) : g_ref15_Right (m, ()) = some ((rpB m, ()), ()) := by
  have no : ¬ RpR m → ¬ AkR m → (some ((false, ()), ()) : Option ((Bool × Unit) × Unit)) = some ((rpB m, ()), ()) := fun h h2 => by rw [b_no (fun q => (rpB_iff.1 q).elim h h2)]
  have gl := g.list
  rw [g_ref15_Right_eq, rbare_is (by omega) g.subs.1, Option.bind_some]
  dsimp only
  cases hb : bareB m with
  | false => exact no (fun h => by have := h.bare; rw [hb] at this; cases this) (fun h => by have := h.bare; rw [hb] at this; cases this)
  | true =>
    rw [ifnt, reright_is g.subs.1, Option.bind_some]
    dsimp only
    cases hs : extB m.subs with
    | false => exact no (fun h => by have := h.subs; rw [hs] at this; cases this) (fun h => by have := h.subs; rw [hs] at this; cases this)
    | true =>
      rw [ifnt]
      refine bq_step (fun hk => by rw [rpB_iff.2 (.inr ⟨hk, hb, hs⟩)]) (fun hk6 => ?_)
      have no' : ¬ RpR m → (some ((false, ()), ()) : Option ((Bool × Unit) × Unit)) = some ((rpB m, ()), ()) := fun h => no h (fun q => hk6 q.kind)
      refine bq_step (fun hk => ?_) (fun q => no' (fun h => q h.kind))
      refine dq_step' (fun h0 => ?_) (fun q => no' (fun h => by have := h.flags; omega))
      refine dq_step' (fun h1 => ?_) (fun q => no' (fun h => by have := h.flags; omega))
      refine dq_step' (fun h2 => ?_) (fun q => no' (fun h => by have := h.plen; omega))
      refine dq_step' (fun h3 => ?_) (fun q => no' (fun h => by have := h.plen; omega))
      rw [rf1, Option.bind_some, rf4, Option.bind_some, rf4, Option.bind_some]
      dsimp only
      cases c1 : fitsB m.hops 1 with
      | false => exact no' (fun h => by have := fitsB1.2 h.hops; rw [c1] at this; cases this)
      | true => cases c2 : fitsB m.seq 4 with
        | false => exact no' (fun h => by have := fitsB4.2 h.seq; rw [c2] at this; cases this)
        | true => cases c3 : fitsB m.interval 4 with
          | false => exact no' (fun h => by have := fitsB4.2 h.life; rw [c3] at this; cases this)
          | true =>
            rw [ift, ift, ift]
            refine bq_step (fun ha => ?_) (fun q => no' (fun h => by have := h.addr; omega))
            rw [rpB_all hk hb hs h0 h1 h2 h3 c1 c2 c3 (by omega)]
end Go.VP
set_option linter.unusedVariables false
set_option linter.unusedSimpArgs false
set_option maxRecDepth 100000
namespace Go.VP
open Go Go.VI
theorem rre_loop {n : Nat} {m : Msg} (g : GoodV m) : ∀ (d k i : Nat), i + d = m.list.length → d < k → L_ref16_Right_0 n k m i = some (((m.list.drop i).all destB, ()), ()) := by
  have gl := g.list
  intro d
  induction d with
  | zero =>
    intro k i hd hk
    obtain ⟨k, rfl⟩ : ∃ j, k = j + 1 := ⟨k - 1, by omega⟩
    rw [L_ref16_Right_0_eq, ifn (by omega), List.drop_eq_nil_of_le (by omega)]; rfl
  | succ d ih =>
    intro k i hd hk
    obtain ⟨k, rfl⟩ : ∃ j, k = j + 1 := ⟨k - 1, by omega⟩
    have hi : i < m.list.length := by omega
    have := ih k (i + 1) (by omega) (by omega)
    rw [show ((i + 1 : Nat) : Int) = (i : Int) + 1 by omega] at this
    have hp : 0 ≤ (i : Int) := by omega
    rw [L_ref16_Right_0_eq, ifd (by omega)]
    simp only [if_pos hp, Int.toNat_natCast, bind_at hi, rf4, Option.bind_some]
    rw [w64 (by omega) (by omega), this, List.drop_eq_getElem_cons hi, List.all_cons]
    unfold destB
    refine ne_step (fun q => ?_) (fun q => ?_)
    · rw [decide_eq_false (by omega)]; rfl
    · rw [decide_eq_true (by omega)]
      cases fitsB m.list[i].seq 4 <;> rfl
theorem reB_all {m : Msg} (hk : m.kind = 5) (hb : bareB m = true) (hf : m.flags = 0 ∨ m.flags = 1) (hl : 1 ≤ m.list.length ∧ m.list.length ≤ 255) : reB m = (m.list.all destB && extB m.subs) := by
  apply b_eq
  simp only [Bool.and_eq_true, reB_iff]
  exact ⟨fun h => ⟨h.list, h.subs⟩, fun ⟨a, b⟩ => ⟨hk, hb, hf, hl, a, b⟩⟩
theorem rerrright_is {m : Msg} (g : GoodV m) : g_ref16_Right (m, ()) = some ((reB m, ()), ()) := by
  show h_ref16_Right fuel _ = _
  have no : ¬ ReR m → (some ((false, ()), ()) : Option ((Bool × Unit) × Unit)) = some ((reB m, ()), ()) := fun h => by rw [b_no (fun q => h (reB_iff.1 q))]
  have gl := g.list
  rw [h_ref16_Right_eq]
  refine ne_step (fun q => no (fun h => q h.kind)) (fun hk => ?_)
  rw [rbare_is (by omega) g.subs.1, Option.bind_some]
  refine nb_step (fun q => no (fun h => by have := h.bare; dsimp only at q; rw [q] at this; cases this)) (fun hb => ?_)
  refine dq_step (fun q => no (fun h => by have := h.flags; omega)) (fun f0 => ?_)
  refine dq_step (fun q => no (fun h => by have := h.flags; omega)) (fun f1 => ?_)
  refine dq_step (fun q => no (fun h => by have := h.len; omega)) (fun h0 => ?_)
  refine dq_step (fun q => no (fun h => by have := h.len; omega)) (fun h1 => ?_)
  rw [reright_is (l := m.subs) g.subs.1, Option.bind_some]
  have := rre_loop (n := fuel) g m.list.length fuel 0 (by omega) (fuel_ge (by omega))
  rw [List.drop_zero, show ((0 : Nat) : Int) = 0 from rfl] at this
  rw [this, reB_all hk hb (by omega) (by omega)]
  dsimp only
  cases extB m.subs <;> simp
def rqBytes (m : Msg) : Bs := [1, u8of (8 * m.flags), 0, u8of m.hops] ++ (be 4 m.nonce ++ (m.addr ++ (be 4 m.seq ++ (m.orig ++ (be 4 m.seq2 ++ encS m.subs)))))
def rpBytes (m : Msg) : Bs := [2, u8of (64 * m.flags), u8of m.plen, u8of m.hops] ++ (m.addr ++ (be 4 m.seq ++ (m.orig ++ (be 4 m.interval ++ encS m.subs))))
def akBytes (m : Msg) : Bs := [4, 0] ++ encS m.subs
def dests : List Dest → Bs
  | [] => []
  | d :: l => (d.addr ++ be 4 d.seq) ++ dests l
def reBytes (m : Msg) : Bs := [3, u8of (128 * m.flags), 0, u8of m.list.length] ++ (dests m.list ++ encS m.subs)
theorem W32.has {n : Int} (h : W32 n) : IntKind.has .i64 n := has64.2 ⟨by have := h.1; omega, by have := h.2; omega⟩
theorem destB_ok {d : Dest} (h : destB d = true) : d.addr.length = 4 ∧ W32 d.seq := by
  unfold destB at h
  simp only [Bool.and_eq_true, decide_eq_true_eq, fitsB4] at h
  exact h
end Go.VP
set_option linter.unusedVariables false
set_option linter.unusedSimpArgs false
set_option maxRecDepth 100000
namespace Go.VP
open Go Go.VI
def zM : Msg := S_api_Msg.mk 0 0 0 [] 0 0 [] 0 0 [] 0 [] 0 0 0 0 0 0 0 [] [] [] 0 [] []
theorem ib8_or {a b : Nat} (ha : a < 256) (hb : b < 256) : ibits .or .u8 (a : Int) (b : Int) = ((a ||| b : Nat) : Int) := by
  unfold ibits
  show IntKind.wrap .u8 (((BitVec.ofInt 8 (a : Int) ||| BitVec.ofInt 8 (b : Int)).toNat : Nat) : Int) = _
  have h : a ||| b < 256 := Nat.or_lt_two_pow (n := 8) ha hb
  rw [BitVec.toNat_or, BitVec.ofInt_natCast, BitVec.ofInt_natCast, BitVec.toNat_ofNat, BitVec.toNat_ofNat, Nat.mod_eq_of_lt ha, Nat.mod_eq_of_lt hb, wu8]
  omega
theorem andor {x y : Int} {k : Nat} (hk : k ≤ 8) (hx : 0 ≤ x ∧ x < 256) (hy : 0 ≤ y ∧ y < 256) : ibits .or .u8 (ibits .and .u8 x ((2 ^ k - 1 : Nat) : Int)) y = 0 ↔ (x % 2 ^ k = 0 ∧ y = 0) := by
  obtain ⟨a, rfl⟩ : ∃ a : Nat, x = a := ⟨x.toNat, by omega⟩
  obtain ⟨b, rfl⟩ : ∃ b : Nat, y = b := ⟨y.toNat, by omega⟩
  have hp : 2 ^ k ≤ 2 ^ 8 := Nat.pow_le_pow_right (by decide) hk
  have hp0 : 0 < 2 ^ k := Nat.pow_pos (by decide)
  have h1 := Nat.mod_lt a hp0
  rw [ib8_and (by omega) (by omega), Nat.and_two_pow_sub_one_eq_mod, ib8_or (by omega) (by omega)]
  have e : ((a : Int) % 2 ^ k) = ((a % 2 ^ k : Nat) : Int) := by simp
  rw [e]
  constructor
  · intro h
    have h0 : a % 2 ^ k ||| b = 0 := by omega
    rw [Nat.or_eq_zero_iff] at h0
    omega
  · intro h
    have e1 : a % 2 ^ k = 0 := by omega
    have e2 : b = 0 := by omega
    rw [e1, e2]; rfl
theorem and224 : ∀ y : Fin 256, (y.val &&& 224 = 0) ↔ y.val < 32 := by decide +kernel
theorem andor2 {x y : Int} (hx : 0 ≤ x ∧ x < 256) (hy : 0 ≤ y ∧ y < 256) : ibits .or .u8 (ibits .and .u8 x 63) (ibits .and .u8 y 224) = 0 ↔ (x % 64 = 0 ∧ y < 32) := by
  obtain ⟨b, rfl⟩ : ∃ b : Nat, y = b := ⟨y.toNat, by omega⟩
  have h2 : ibits .and .u8 (b : Int) 224 = ((b &&& 224 : Nat) : Int) := ib8_and (b := 224) (by omega) (by omega)
  have h3 : b &&& 224 ≤ b := Nat.and_le_left
  have := andor (x := x) (y := ((b &&& 224 : Nat) : Int)) (k := 6) (by omega) hx (by omega)
  rw [h2]
  have h4 := and224 ⟨b, by omega⟩
  dsimp only at h4
  rw [show ((2 ^ 6 - 1 : Nat) : Int) = 63 from rfl, show (2 : Int) ^ 6 = 64 from rfl] at this
  rw [this]
  omega
theorem shr_u8 {x : Int} {k : Nat} (hk : k ≤ 8) : ishr .u8 x (k : Int) = x / 2 ^ k := by
  unfold ishr
  rw [show min (k : Int).toNat IntKind.u8.bits = k by simp only [IntKind.bits]; omega]
  exact Int.fdiv_eq_ediv_of_nonneg _ (Int.pow_nonneg (by decide))
def rqMsg (b : Bs) : Msg := S_api_Msg.mk 3 0 0 [] 0 0 [] 0 0 [] 0 [] (num (cut_ b 12 4)) (num (cut_ b 20 4)) 0 (bt b 1 / 8) (bt b 3) (num (cut_ b 4 4)) 0 (cut_ b 8 4) (cut_ b 16 4) [] 0 [] (getE (b.drop 24)).1
def tailE (b : Bs) (p : Nat) (m : Msg) : Msg × Int × Int := if (getE (b.drop p)).2.2 ≠ 0 then (zM, p + (getE (b.drop p)).2.1, (getE (b.drop p)).2.2) else (m, 0, 0)
def rqGet (b : Bs) : Msg × Int × Int :=
  if b.length < 24 then (zM, b.length, 2) else if ¬ (bt b 1 % 8 = 0 ∧ bt b 2 = 0) then (zM, 1, 5) else tailE b 24 (rqMsg b)
theorem rqget_is {b : Bs} (hb : b.length ≤ 1000000) : g_rreq_Get (b, ()) = some (trip (rqGet b), ()) := by
  rw [g_rreq_Get_eq]
  unfold rqGet
  refine dq_step (fun h => by rw [if_pos (by omega)]; rfl) (fun h => ?_)
  have w0 : WfC b 0 b.length := .whole (by omega)
  have w1 := w0.fwd (n := 4) (by omega) (by omega)
  have w2 := w1.fwd (n := 4) (by omega) (by omega)
  have w3 := w2.fwd (n := 4) (by omega) (by omega)
  have w4 := w3.fwd (n := 4) (by omega) (by omega)
  have w5 := w4.fwd (n := 4) (by omega) (by omega)
  rw [if_neg (show ¬ b.length < 24 by omega), get_bt (i := 1) (by omega), get_bt (i := 2) (by omega), get_bt (i := 3) (by omega)]
  simp only [Option.bind_some]
  have e1 : (((b[1]?.getD 0).toNat : Nat) : Int) = bt b 1 := rfl
  have e2 : (((b[2]?.getD 0).toNat : Nat) : Int) = bt b 2 := rfl
  have e3 : (((b[3]?.getD 0).toNat : Nat) : Int) = bt b 3 := rfl
  rw [e1, e2, e3]
  have hx := bt_rng b 1
  have hy := bt_rng b 2
  have hz := bt_rng b 3
  have ao := andor (k := 3) (by omega) hx hy
  rw [show ((2 ^ 3 - 1 : Nat) : Int) = 7 from rfl, show (2 : Int) ^ 3 = 8 from rfl] at ao
  refine ne_step (fun q => ?_) (fun q => ?_)
  · rw [if_pos (fun c => q (ao.2 c))]; rfl
  rw [if_neg (show ¬ ¬ (bt b 1 % 8 = 0 ∧ bt b 2 = 0) from fun c => c (ao.1 q)), if_pos (by omega), eget_is (by rw [List.length_drop]; omega), Option.bind_some]
  have hp := getE_place (b.drop 24)
  rw [List.length_drop] at hp
  unfold tailE
  refine ne_step (fun q2 => ?_) (fun q2 => ?_)
  · rw [if_pos q2]
    dsimp only at q2 ⊢
    rw [w64 (by omega) (by omega), Int.add_comm]; rfl
  rw [if_neg (show ¬ (getE (b.drop 24)).2.2 ≠ 0 from fun c => c q2), new_is, Option.bind_some]
  dsimp only
  rw [text_ok w0 (by omega) (by omega), Option.bind_some]
  dsimp only
  rw [num_ok w1 (by omega) (by omega) (by omega), Option.bind_some]
  dsimp only
  rw [text_ok w2 (by omega) (by omega), Option.bind_some]
  dsimp only
  rw [num_ok w3 (by omega) (by omega) (by omega), Option.bind_some]
  dsimp only
  rw [text_ok w4 (by omega) (by omega), Option.bind_some]
  dsimp only
  rw [num_ok w5 (by omega) (by omega) (by omega), Option.bind_some]
  have hs := shr_u8 (x := bt b 1) (k := 3) (by omega)
  rw [show ((3 : Nat) : Int) = 3 from rfl, show (2 : Int) ^ 3 = 8 from rfl] at hs
  rw [hs, w64 (by omega) (by omega), w64 (by omega) (by omega)]
  rfl
def rpMsg (b : Bs) : Msg := S_api_Msg.mk 4 0 0 [] 0 0 [] (bt b 2) 0 [] 0 [] (num (cut_ b 8 4)) 0 (num (cut_ b 16 4)) (bt b 1 / 64) (bt b 3) 0 0 (cut_ b 4 4) (cut_ b 12 4) [] 0 [] (getE (b.drop 20)).1
def akMsg (b : Bs) : Msg := S_api_Msg.mk 6 0 0 [] 0 0 [] 0 0 [] 0 [] 0 0 0 0 0 0 0 [] [] [] 0 [] (getE (b.drop 2)).1
def rpGet (b : Bs) : Msg × Int × Int :=
  if bt b 0 = 4 then (if b.length < 2 then (zM, b.length, 2) else if ¬ bt b 1 = 0 then (zM, 1, 5) else tailE b 2 (akMsg b))
  else if b.length < 20 then (zM, b.length, 2) else if ¬ (bt b 1 % 64 = 0 ∧ bt b 2 < 32) then (zM, 1, 5) else tailE b 20 (rpMsg b)
theorem ack_is {b : Bs} (hb : b.length ≤ 1000000) : g_rrep_ack (b, ()) = some (trip (if b.length < 2 then (zM, (b.length : Int), (2 : Int)) else if ¬ bt b 1 = 0 then (zM, 1, 5) else tailE b 2 (akMsg b)), ()) := by
  rw [g_rrep_ack_eq]
  refine dq_step (fun h => by rw [if_pos (by omega)]; rfl) (fun h => ?_)
  rw [if_neg (show ¬ b.length < 2 by omega), get_bt (i := 1) (by omega), Option.bind_some]
  refine ne_step (fun q => ?_) (fun q => ?_)
  · rw [if_pos (show ¬ bt b 1 = 0 from q)]; rfl
  rw [if_neg (show ¬ ¬ bt b 1 = 0 from fun c => c q), if_pos (by omega), eget_is (by rw [List.length_drop]; omega), Option.bind_some]
  have hp := getE_place (b.drop 2)
  rw [List.length_drop] at hp
  unfold tailE
  refine ne_step (fun q2 => ?_) (fun q2 => ?_)
  · rw [if_pos q2]
    dsimp only at q2 ⊢
    rw [w64 (by omega) (by omega), Int.add_comm]; rfl
  · rw [if_neg (show ¬ (getE (b.drop 2)).2.2 ≠ 0 from fun c => c q2)]; rfl
theorem rpget_is {b : Bs} (h0 : 1 ≤ b.length) (hb : b.length ≤ 1000000) : g_rrep_Get (b, ()) = some (trip (rpGet b), ()) := by
  rw [g_rrep_Get_eq]
  unfold rpGet
  have hne : b ≠ [] := by intro q; rw [q] at h0; simp at h0
  rw [if_pos (by simp [hne]), get_bt (i := 0) (by omega), Option.bind_some]
  refine bq_step (fun q => ?_) (fun q => ?_)
  · rw [if_pos (show bt b 0 = 4 from q), ack_is hb]; rfl
  rw [if_neg (show ¬ bt b 0 = 4 from q)]
  refine dq_step (fun h => by rw [if_pos (by omega)]; rfl) (fun h => ?_)
  have w0 : WfC b 0 b.length := .whole (by omega)
  have w1 := w0.fwd (n := 4) (by omega) (by omega)
  have w2 := w1.fwd (n := 4) (by omega) (by omega)
  have w3 := w2.fwd (n := 4) (by omega) (by omega)
  have w4 := w3.fwd (n := 4) (by omega) (by omega)
  rw [if_neg (show ¬ b.length < 20 by omega), get_bt (i := 1) (by omega), get_bt (i := 2) (by omega), get_bt (i := 3) (by omega)]
  simp only [Option.bind_some]
  have e1 : (((b[1]?.getD 0).toNat : Nat) : Int) = bt b 1 := rfl
  have e2 : (((b[2]?.getD 0).toNat : Nat) : Int) = bt b 2 := rfl
  have e3 : (((b[3]?.getD 0).toNat : Nat) : Int) = bt b 3 := rfl
  rw [e1, e2, e3]
  have hx := bt_rng b 1
  have hy := bt_rng b 2
  have hz := bt_rng b 3
  have ao := andor2 hx hy
  refine ne_step (fun q => ?_) (fun q => ?_)
  · rw [if_pos (fun c => q (ao.2 c))]; rfl
  rw [if_neg (show ¬ ¬ (bt b 1 % 64 = 0 ∧ bt b 2 < 32) from fun c => c (ao.1 q)), if_pos (by omega), eget_is (by rw [List.length_drop]; omega), Option.bind_some]
  have hp := getE_place (b.drop 20)
  rw [List.length_drop] at hp
  unfold tailE
  refine ne_step (fun q2 => ?_) (fun q2 => ?_)
  · rw [if_pos q2]
    dsimp only at q2 ⊢
    rw [w64 (by omega) (by omega), Int.add_comm]; rfl
  rw [if_neg (show ¬ (getE (b.drop 20)).2.2 ≠ 0 from fun c => c q2), new_is, Option.bind_some]
  dsimp only
  rw [text_ok w0 (by omega) (by omega), Option.bind_some]
  dsimp only
  rw [text_ok w1 (by omega) (by omega), Option.bind_some]
  dsimp only
  rw [num_ok w2 (by omega) (by omega) (by omega), Option.bind_some]
  dsimp only
  rw [text_ok w3 (by omega) (by omega), Option.bind_some]
  dsimp only
  rw [num_ok w4 (by omega) (by omega) (by omega), Option.bind_some]
  have hs := shr_u8 (x := bt b 1) (k := 6) (by omega)
  rw [show ((6 : Nat) : Int) = 6 from rfl, show (2 : Int) ^ 6 = 64 from rfl] at hs
  rw [hs, w64 (by omega) (by omega), w64 (by omega) (by omega), w64 (by omega) (by omega)]
  rfl
end Go.VP
set_option linter.unusedVariables false
set_option linter.unusedSimpArgs false
set_option maxRecDepth 100000
namespace Go.VP
open Go Go.VI
def destG (b : Bs) : Nat → Nat → List Dest
  | 0, _ => []
  | k + 1, p => ⟨cut_ b p 4, num (cut_ b ((p : Int) + 4) 4)⟩ :: destG b k (p + 8)
def reMsg (b : Bs) : Msg := S_api_Msg.mk 5 0 0 [] 0 0 [] 0 0 [] 0 [] 0 0 0 (bt b 1 / 128) 0 0 0 [] [] (destG b (bt b 3).toNat 4) 0 [] (getE (b.drop (4 + 8 * (bt b 3).toNat))).1
def reGet (b : Bs) : Msg × Int × Int :=
  if b.length < 4 then (zM, b.length, 2) else if ¬ (bt b 1 % 128 = 0 ∧ bt b 2 = 0) then (zM, 1, 5) else if bt b 3 = 0 then (zM, 3, 8)
  else if b.length < 4 + 8 * (bt b 3).toNat then (zM, b.length, 2) else tailE b (4 + 8 * (bt b 3).toNat) (reMsg b)
theorem destBo : bo_api_Dest ≤ 100 := Nat.le_of_ble_eq_true (by kernel_rfl)
theorem reget_bad {n : Nat} {b : Bs} {fl c : Int} (hb : b.length ≤ 1000000) (hc : c ≤ 255) : ∀ (d m i : Nat) (p : Int) (bad : Bool) (acc : List Dest), (i : Int) + d = c → d < m → WfC b p b.length → (bad = true ∨ (b.length : Int) < p + 8 * d) → acc.length ≤ i →
    L_rerr_Get_0 n m b fl acc b p b.length bad c i = some (trip (zM, (b.length : Int), (2 : Int)), ()) := by
  intro d
  induction d with
  | zero =>
    intro m i p bad acc hd hm w hbad ha
    obtain ⟨m, rfl⟩ : ∃ j, m = j + 1 := ⟨m - 1, by omega⟩
    have hw := w.hi
    have : bad = true := hbad.resolve_right (by omega)
    rw [L_rerr_Get_0_eq, ifn (by omega), this]; try rfl
  | succ d ih =>
    intro m i p bad acc hd hm w hbad ha
    obtain ⟨m, rfl⟩ : ∃ j, m = j + 1 := ⟨m - 1, by omega⟩
    rw [L_rerr_Get_0_eq, ifd (by omega), w64 (by omega) (by omega)]
    have go : ∀ (q : Int) (bd : Bool) (x : Dest), WfC b q b.length → (bd = true ∨ (b.length : Int) < q + 8 * d) → (if roomB ((acc.length + [x].length) * bo_api_Dest) = true then L_rerr_Get_0 n m b fl (acc ++ [x]) b q b.length bd c ((i : Int) + 1) else none) = some (trip (zM, (b.length : Int), (2 : Int)), ()) := by
      intro q bd x wq hq
      rw [if_pos (room_mul (by simp; omega) destBo)]
      have := ih m (i + 1) q bd (acc ++ [x]) (by omega) (by omega) wq hq (by simp; omega)
      rw [show ((i + 1 : Nat) : Int) = (i : Int) + 1 by omega] at this
      exact this
    by_cases h1 : bad = true ∨ (b.length : Int) < p + 4
    · rw [text_bad w (h1.imp id .inr), Option.bind_some]
      dsimp only
      rw [num_bad w (by omega) (by omega) (.inl rfl), Option.bind_some]
      exact go p true _ w (.inl rfl)
    · have hbf : bad = false := by cases bad <;> simp_all
      subst hbf
      have w1 := w.fwd (n := 4) (by omega) (by omega)
      rw [text_ok w (by omega) (by omega), Option.bind_some]
      dsimp only
      by_cases h2 : (b.length : Int) < p + 4 + 4
      · rw [num_bad w1 (by omega) (by omega) (.inr (by omega)), Option.bind_some]
        exact go (p + 4) true _ w1 (.inl rfl)
      · rw [num_ok w1 (by omega) (by omega) (by omega), Option.bind_some]
        exact go (p + 4 + 4) false _ (w1.fwd (n := 4) (by omega) (by omega)) (.inr (by have := hbad.resolve_left (by simp); omega))
theorem tail_rng (b : Bs) (p : Nat) (h : p ≤ b.length) : 0 ≤ (getE (b.drop p)).2.1 ∧ (getE (b.drop p)).2.1 ≤ b.length := by
  have := getE_place (b.drop p)
  rw [List.length_drop] at this
  omega
def reTail (b : Bs) (fl : Int) (l : List Dest) (p : Nat) : Msg × Int × Int := tailE b p (S_api_Msg.mk 5 0 0 [] 0 0 [] 0 0 [] 0 [] 0 0 0 fl 0 0 0 [] [] l 0 [] (getE (b.drop p)).1)
theorem reget_good {n : Nat} {b : Bs} {fl c : Int} (hb : b.length ≤ 1000000) (hc : c ≤ 255) : ∀ (d m i p : Nat) (acc : List Dest), (i : Int) + d = c → d < m → p + 8 * d ≤ b.length → acc.length ≤ i →
    L_rerr_Get_0 n m b fl acc b p b.length false c i = some (trip (reTail b fl (acc ++ destG b d p) (p + 8 * d)), ()) := by
  intro d
  induction d with
  | zero =>
    intro m i p acc hd hm hp ha
    obtain ⟨m, rfl⟩ : ∃ j, m = j + 1 := ⟨m - 1, by omega⟩
    have ht := tail_rng b p (by omega)
    rw [L_rerr_Get_0_eq, ifn (by omega), iff_, if_pos (by omega), Int.toNat_natCast, eget_is (by rw [List.length_drop]; omega), Option.bind_some, destG, List.append_nil]
    unfold reTail tailE
    rw [Nat.mul_zero, Nat.add_zero]
    refine ne_step (fun q2 => ?_) (fun q2 => ?_)
    · rw [if_pos q2]
      dsimp only at q2 ⊢
      rw [w64 (by omega) (by omega)]; try rfl
    · rw [if_neg (fun c => c q2)]; try rfl
  | succ d ih =>
    intro m i p acc hd hm hp ha
    obtain ⟨m, rfl⟩ : ∃ j, m = j + 1 := ⟨m - 1, by omega⟩
    have w : WfC b p b.length := ⟨by omega, by omega, by omega, by omega⟩
    have w1 := w.fwd (n := 4) (by omega) (by omega)
    have := ih m (i + 1) (p + 8) (acc ++ [⟨cut_ b p 4, num (cut_ b ((p : Int) + 4) 4)⟩]) (by omega) (by omega) (by omega) (by simp; omega)
    rw [show ((i + 1 : Nat) : Int) = (i : Int) + 1 by omega, show ((p + 8 : Nat) : Int) = (p : Int) + 4 + 4 by omega, show p + 8 + 8 * d = p + 8 * (d + 1) by omega] at this
    rw [L_rerr_Get_0_eq, ifd (by omega), w64 (by omega) (by omega), text_ok w (by omega) (by omega), Option.bind_some]
    dsimp only
    rw [num_ok w1 (by omega) (by omega) (by omega), Option.bind_some]
    dsimp only
    rw [if_pos (room_mul (by simp; omega) destBo), this, destG]
    simp only [List.append_assoc, List.singleton_append]
theorem reget2_is {b : Bs} (hb : b.length ≤ 1000000) : g_rerr_Get (b, ()) = some (trip (reGet b), ()) := by
  show h_rerr_Get fuel _ = _
  rw [h_rerr_Get_eq]
  unfold reGet
  refine dq_step (fun h => by rw [if_pos (by omega)]; try rfl) (fun h => ?_)
  rw [if_neg (show ¬ b.length < 4 by omega), get_bt (i := 1) (by omega), Option.bind_some, get_bt (i := 2) (by omega), Option.bind_some, get_bt (i := 3) (by omega)]
  have e1 : (((b[1]?.getD 0).toNat : Nat) : Int) = bt b 1 := rfl
  have e2 : (((b[2]?.getD 0).toNat : Nat) : Int) = bt b 2 := rfl
  have e3 : (((b[3]?.getD 0).toNat : Nat) : Int) = bt b 3 := rfl
  rw [e1, e2]
  have hx := bt_rng b 1
  have hy := bt_rng b 2
  have hz := bt_rng b 3
  have ao := andor (k := 7) (by omega) hx hy
  rw [show ((2 ^ 7 - 1 : Nat) : Int) = 127 from rfl, show (2 : Int) ^ 7 = 128 from rfl] at ao
  refine ne_step (fun q => ?_) (fun q => ?_)
  · rw [if_pos (fun c => q (ao.2 c))]; try rfl
  rw [if_neg (show ¬ ¬ (bt b 1 % 128 = 0 ∧ bt b 2 = 0) from fun c => c (ao.1 q)), Option.bind_some]
  refine bq_step (fun q => by rw [if_pos (show bt b 3 = 0 from q)]; try rfl) (fun q => ?_)
  have w0 : WfC b 0 b.length := .whole (by omega)
  have w1 := w0.fwd (n := 4) (by omega) (by omega)
  have hs := shr_u8 (x := bt b 1) (k := 7) (by omega)
  rw [show ((7 : Nat) : Int) = 7 from rfl, show (2 : Int) ^ 7 = 128 from rfl] at hs
  rw [if_neg (show ¬ bt b 3 = 0 from q), Option.bind_some, new_is, Option.bind_some]
  dsimp only
  rw [text_ok w0 (by omega) (by omega), Option.bind_some, Option.bind_some, e3, e1, hs, w64 (x := bt b 1 / 128) (by omega) (by omega), w64 (x := bt b 3) (by omega) (by omega)]
  dsimp only
  by_cases hl : b.length < 4 + 8 * (bt b 3).toNat
  · rw [if_pos hl]
    have key := reget_bad (n := fuel) (fl := bt b 1 / 128) (c := bt b 3) hb (by omega) (bt b 3).toNat fuel 0 (0 + 4) false [] (by omega) (fuel_ge (by omega)) w1 (.inr (by omega)) (by simp)
    rw [show ((0 : Nat) : Int) = 0 from rfl] at key
    rw [key]
  · rw [if_neg hl]
    have key := reget_good (n := fuel) (fl := bt b 1 / 128) (c := bt b 3) hb (by omega) (bt b 3).toNat fuel 0 4 [] (by omega) (fuel_ge (by omega)) (by omega) (by simp)
    rw [show ((4 : Nat) : Int) = 0 + 4 from rfl, show ((0 : Nat) : Int) = 0 from rfl, List.nil_append] at key
    rw [key]
    unfold reTail reMsg
    rfl
end Go.VP
set_option linter.unusedVariables false
set_option linter.unusedSimpArgs false
set_option maxRecDepth 100000
namespace Go.VP
open Go Go.VI
noncomputable def avB (m : Msg) : Bool := rqB m || (rpB m || reB m)
noncomputable def avPut (m : Msg) : Bs := if rqB m = true then rqBytes m else if rpB m = true then (if m.kind = 6 then akBytes m else rpBytes m) else if reB m = true then reBytes m else []
noncomputable def encAv (l : List Msg) : Bs × Int × Int := match badP avB l 0 with
  | some i => ([], (i : Int), 1)
  | none => match l with
    | [] => ([], 0, 8)
    | [m] => if 65535 < (avPut m).length then ([], 0, 10) else (avPut m, 0, 0)
    | _ => ([], 1, 8)
def avGet (b : Bs) : Msg × Int × Int := if bt b 0 = 1 then rqGet b else if bt b 0 = 3 then reGet b else rpGet b
def parseAv (b : Bs) : List Msg × Int × Int :=
  if 65535 < b.length then ([], 65535, 10) else if b.length = 0 then ([], 0, 2) else if bt b 0 < 1 ∨ 4 < bt b 0 then ([], 0, 4)
  else if (avGet b).2.2 ≠ 0 then ([], (avGet b).2.1, (avGet b).2.2) else ([(avGet b).1], 0, 0)
theorem avget_is {b : Bs} (h0 : 1 ≤ b.length) (hb : b.length ≤ 1000000) : g_aodv_get (b, ()) = some (trip (avGet b), ()) := by
  rw [g_aodv_get_eq, get_bt (i := 0) (by omega), Option.bind_some]
  unfold avGet
  refine bq_step (fun q => ?_) (fun q => ?_)
  · rw [if_pos (show bt b 0 = 1 from q), rqget_is hb]; try rfl
  rw [if_neg (show ¬ bt b 0 = 1 from q)]
  refine bq_step (fun q => ?_) (fun q => ?_)
  · rw [if_pos (show bt b 0 = 3 from q), reget2_is hb]; try rfl
  rw [if_neg (show ¬ bt b 0 = 3 from q), rpget_is h0 hb]; try rfl
theorem avparse_is {b : Bs} (hb : b.length ≤ 1000000000) : g_aodv_Parse (b, ()) = some (trip (parseAv b), ()) := by
  rw [g_aodv_Parse_eq]
  unfold parseAv
  refine dq_step (fun h => by rw [if_pos (by omega)]; try rfl) (fun h => ?_)
  rw [if_neg (show ¬ 65535 < b.length by omega)]
  refine bq_step (fun h => by rw [if_pos (by omega)]; try rfl) (fun h1 => ?_)
  rw [if_neg (show ¬ b.length = 0 by omega), get_bt (i := 0) (by omega), Option.bind_some, Option.bind_some]
  refine dq_step (fun h => by rw [if_pos (show bt b 0 < 1 ∨ 4 < bt b 0 from .inl h)]; try rfl) (fun h2 => ?_)
  refine dq_step (fun h => by rw [if_pos (show bt b 0 < 1 ∨ 4 < bt b 0 from .inr h)]; try rfl) (fun h3 => ?_)
  rw [if_neg (show ¬ (bt b 0 < 1 ∨ 4 < bt b 0) from fun c => c.elim h2 h3), avget_is (by omega) (by omega), Option.bind_some]
  refine ne_step (fun q => ?_) (fun q => ?_)
  · rw [if_pos q]; try rfl
  · rw [if_neg (fun c => c q)]; try rfl
theorem ravright_is {m : Msg} (g : GoodV m) : g_ref17_Right (m, ()) = some ((avB m, ()), ()) := by
  rw [g_ref17_Right_eq, rrqright_is g, Option.bind_some]
  unfold avB
  dsimp only
  cases rqB m with
  | true => rfl
  | false =>
    rw [iff_, rrpright_is g, Option.bind_some]
    dsimp only
    cases rpB m with
    | true => rfl
    | false => rw [iff_, rerrright_is g]; try rfl
end Go.VP
set_option linter.unusedVariables false
set_option linter.unusedSimpArgs false
set_option maxRecDepth 100000
namespace Go.VP
open Go Go.VI
theorem glue4 (b : Bs) (p : Nat) : cut_ b p 4 ++ b.drop (p + 4) = b.drop p := by
  have := cut_dropN b p 4
  rw [show ((4 : Nat) : Int) = 4 from rfl] at this
  rw [this, ← List.drop_drop, List.take_append_drop]
theorem cut4_len {b : Bs} {p : Nat} (h : p + 4 ≤ b.length) : (cut_ b p 4).length = 4 := by
  have := cut_length (s := b) (p := p) (n := 4) (by omega) (by omega) (by omega)
  omega
theorem num4 {b : Bs} {p : Nat} (h : p + 4 ≤ b.length) : W32 (num (cut_ b p 4)) := by
  have := num_rng (cut_ b p 4)
  rw [cut4_len h] at this
  exact ⟨this.1, by have := this.2; omega⟩
theorem be_num4 {b : Bs} {p : Nat} (h : p + 4 ≤ b.length) : be 4 (num (cut_ b p 4)) = cut_ b p 4 := be_num 4 _ (cut4_len h)
theorem bare_eq {m x : Msg} (h : bareB m = true) (hx : bareOf m = some x) : m = x := by
  unfold bareB at h
  rw [hx] at h
  exact (eqB_true.1 h).symm
theorem bare_of {m : Msg} (h : bareOf m = some m) : bareB m = true := by
  unfold bareB; rw [h]; exact eqB_refl m
theorem RqR.is {m : Msg} (h : RqR m) : m = S_api_Msg.mk 3 0 0 [] 0 0 [] 0 0 [] 0 [] m.seq m.seq2 0 m.flags m.hops m.nonce 0 m.addr m.orig [] 0 [] m.subs := by
  have hk := h.kind
  have := bare_eq h.bare (by unfold bareOf; rw [if_neg (by omega), if_neg (by omega), if_pos hk])
  rw [hk] at this
  exact this
theorem head4 {b : Bs} (h : ¬ b.length < 4) : [u8of (bt b 0), u8of (bt b 1), u8of (bt b 2), u8of (bt b 3)] ++ b.drop 4 = b := by
  obtain ⟨w, x, y, z, r, rfl⟩ := four_of h
  show [u8of (w.toNat : Int), u8of (x.toNat : Int), u8of (y.toNat : Int), u8of (z.toNat : Int)] ++ r = _
  rw [u8of_nat, u8of_nat, u8of_nat, u8of_nat]; rfl
theorem tailE_ok {b : Bs} {p : Nat} {m : Msg} (h : (tailE b p m).2.2 = 0) : tailE b p m = (m, 0, 0) ∧ AllE (getE (b.drop p)).1 ∧ encS (getE (b.drop p)).1 = b.drop p ∧ 2 * (getE (b.drop p)).1.length ≤ b.length := by
  unfold tailE at h ⊢
  by_cases q : (getE (b.drop p)).2.2 ≠ 0
  · rw [if_pos q] at h; exact absurd h q
  · rw [if_neg q]
    obtain ⟨_, k1, k2, k3⟩ := getE_ok (Classical.byContradiction q)
    rw [List.length_drop] at k3
    exact ⟨rfl, k1, k2, by omega⟩
theorem rq_again {b : Bs} (h0 : bt b 0 = 1) (h : (rqGet b).2.2 = 0) : rqGet b = (rqMsg b, 0, 0) ∧ RqR (rqMsg b) ∧ rqBytes (rqMsg b) = b ∧ (rqMsg b).subs.length ≤ b.length := by
  unfold rqGet at h ⊢
  by_cases h1 : b.length < 24
  · rw [if_pos h1] at h; cases h
  by_cases h2 : ¬ (bt b 1 % 8 = 0 ∧ bt b 2 = 0)
  · rw [if_neg h1, if_pos h2] at h; cases h
  rw [if_neg h1, if_neg h2] at h ⊢
  obtain ⟨k1, k2, k3, k4⟩ := tailE_ok h
  have h2 := Classical.byContradiction h2
  have hx := bt_rng b 1
  have hz := bt_rng b 3
  refine ⟨k1, ⟨rfl, bare_of rfl, by show 0 ≤ bt b 1 / 8 ∧ bt b 1 / 8 ≤ 31; omega, cut4_len (p := 8) (by omega), cut4_len (p := 16) (by omega), num4 (p := 4) (by omega), num4 (p := 12) (by omega), num4 (p := 20) (by omega), hz, allE_iff.2 k2⟩, ?_, by show (getE (b.drop 24)).1.length ≤ _; omega⟩
  show [1, u8of (8 * (bt b 1 / 8)), 0, u8of (bt b 3)] ++ (be 4 (num (cut_ b (4 : Nat) 4)) ++ (cut_ b (8 : Nat) 4 ++ (be 4 (num (cut_ b (12 : Nat) 4)) ++ (cut_ b (16 : Nat) 4 ++ (be 4 (num (cut_ b (20 : Nat) 4)) ++ encS (getE (b.drop 24)).1))))) = b
  rw [k3, be_num4 (by omega), be_num4 (by omega), be_num4 (by omega), glue4 b 20, glue4 b 16, glue4 b 12, glue4 b 8, glue4 b 4, show 8 * (bt b 1 / 8) = bt b 1 by omega]
  have := head4 (b := b) (by omega)
  rw [h0, h2.2] at this
  exact this
theorem RpR.is {m : Msg} (h : RpR m) : m = S_api_Msg.mk 4 0 0 [] 0 0 [] m.plen 0 [] 0 [] m.seq 0 m.interval m.flags m.hops 0 0 m.addr m.orig [] 0 [] m.subs := by
  have hk := h.kind
  have := bare_eq h.bare (by unfold bareOf; rw [if_neg (by omega), if_neg (by omega), if_neg (by omega), if_pos hk])
  rw [hk] at this
  exact this
theorem AkR.is {m : Msg} (h : AkR m) : m = S_api_Msg.mk 6 0 0 [] 0 0 [] 0 0 [] 0 [] 0 0 0 0 0 0 0 [] [] [] 0 [] m.subs := by
  have hk := h.kind
  have := bare_eq h.bare (by unfold bareOf; rw [if_neg (by omega), if_neg (by omega), if_neg (by omega), if_neg (by omega), if_neg (by omega), if_pos hk])
  rw [hk] at this
  exact this
theorem rp_again {b : Bs} (h4 : ¬ bt b 0 = 4) (h0 : bt b 0 = 2) (h : (rpGet b).2.2 = 0) : rpGet b = (rpMsg b, 0, 0) ∧ RpR (rpMsg b) ∧ rpBytes (rpMsg b) = b ∧ (rpMsg b).subs.length ≤ b.length := by
  unfold rpGet at h ⊢
  rw [if_neg h4] at h ⊢
  by_cases h1 : b.length < 20
  · rw [if_pos h1] at h; cases h
  by_cases h2 : ¬ (bt b 1 % 64 = 0 ∧ bt b 2 < 32)
  · rw [if_neg h1, if_pos h2] at h; cases h
  rw [if_neg h1, if_neg h2] at h ⊢
  obtain ⟨k1, k2, k3, k4⟩ := tailE_ok h
  have h2 := Classical.byContradiction h2
  have hx := bt_rng b 1
  have hy := bt_rng b 2
  have hz := bt_rng b 3
  refine ⟨k1, ⟨rfl, bare_of rfl, by show 0 ≤ bt b 1 / 64 ∧ bt b 1 / 64 ≤ 3; omega, by show 0 ≤ bt b 2 ∧ bt b 2 ≤ 31; omega, cut4_len (p := 4) (by omega), cut4_len (p := 12) (by omega), num4 (p := 8) (by omega), num4 (p := 16) (by omega), hz, allE_iff.2 k2⟩, ?_, by show (getE (b.drop 20)).1.length ≤ _; omega⟩
  show [2, u8of (64 * (bt b 1 / 64)), u8of (bt b 2), u8of (bt b 3)] ++ (cut_ b (4 : Nat) 4 ++ (be 4 (num (cut_ b (8 : Nat) 4)) ++ (cut_ b (12 : Nat) 4 ++ (be 4 (num (cut_ b (16 : Nat) 4)) ++ encS (getE (b.drop 20)).1)))) = b
  rw [k3, be_num4 (by omega), be_num4 (by omega), glue4 b 16, glue4 b 12, glue4 b 8, glue4 b 4, show 64 * (bt b 1 / 64) = bt b 1 by omega]
  have := head4 (b := b) (by omega)
  rw [h0] at this
  exact this
theorem ak_again {b : Bs} (hb : 1 ≤ b.length) (h0 : bt b 0 = 4) (h : (rpGet b).2.2 = 0) : rpGet b = (akMsg b, 0, 0) ∧ AkR (akMsg b) ∧ akBytes (akMsg b) = b ∧ (akMsg b).subs.length ≤ b.length := by
  unfold rpGet at h ⊢
  rw [if_pos h0] at h ⊢
  by_cases h1 : b.length < 2
  · rw [if_pos h1] at h; cases h
  by_cases h2 : ¬ bt b 1 = 0
  · rw [if_neg h1, if_pos h2] at h; cases h
  rw [if_neg h1, if_neg h2] at h ⊢
  obtain ⟨k1, k2, k3, k4⟩ := tailE_ok h
  have h2 := Classical.byContradiction h2
  refine ⟨k1, ⟨rfl, bare_of rfl, allE_iff.2 k2⟩, ?_, by show (getE (b.drop 2)).1.length ≤ _; omega⟩
  show [4, 0] ++ encS (getE (b.drop 2)).1 = b
  rw [k3]
  match b, h1, h0, h2 with
  | w :: x :: r, _, h0, h2 =>
    have e0 : w = 4 := u8_eq (a := w) (b := 4) h0
    have e1 : x = 0 := u8_eq (a := x) (b := 0) h2
    rw [e0, e1]; rfl
  | [], h1, _, _ => simp at h1
  | [_], h1, _, _ => simp at h1
theorem ReR.is {m : Msg} (h : ReR m) : m = S_api_Msg.mk 5 0 0 [] 0 0 [] 0 0 [] 0 [] 0 0 0 m.flags 0 0 0 [] [] m.list 0 [] m.subs := by
  have hk := h.kind
  have := bare_eq h.bare (by unfold bareOf; rw [if_neg (by omega), if_neg (by omega), if_neg (by omega), if_neg (by omega), if_pos hk])
  rw [hk] at this
  exact this
theorem destG_len (b : Bs) : ∀ (k p : Nat), (destG b k p).length = k
  | 0, _ => rfl
  | k + 1, p => by rw [destG, List.length_cons, destG_len b k]
theorem destG_again {b : Bs} : ∀ (k p : Nat), p + 8 * k ≤ b.length → (∀ d ∈ destG b k p, destB d = true) ∧ dests (destG b k p) ++ b.drop (p + 8 * k) = b.drop p
  | 0, p, _ => ⟨(fun d hd => by cases hd), rfl⟩
  | k + 1, p, h => by
    obtain ⟨h1, h2⟩ := destG_again (b := b) k (p + 8) (by omega)
    have e : ((p : Int) + 4) = ((p + 4 : Nat) : Int) := by omega
    refine ⟨fun d hd => ?_, ?_⟩
    · rw [destG] at hd
      rcases List.mem_cons.1 hd with rfl | hd
      · unfold destB
        rw [Bool.and_eq_true, decide_eq_true_eq, fitsB4, e]
        exact ⟨cut4_len (by omega), num4 (by omega)⟩
      · exact h1 d hd
    · rw [destG, dests, e, be_num4 (by omega), List.append_assoc, List.append_assoc, show p + 8 * (k + 1) = p + 8 + 8 * k by omega, h2]
      show cut_ b p 4 ++ (cut_ b ((p + 4 : Nat) : Int) 4 ++ b.drop (p + 4 + 4)) = _
      rw [glue4, glue4]
theorem re_again {b : Bs} (h0 : bt b 0 = 3) (h : (reGet b).2.2 = 0) : reGet b = (reMsg b, 0, 0) ∧ ReR (reMsg b) ∧ reBytes (reMsg b) = b ∧ (reMsg b).subs.length ≤ b.length := by
  unfold reGet at h ⊢
  by_cases h1 : b.length < 4
  · rw [if_pos h1] at h; cases h
  by_cases h2 : ¬ (bt b 1 % 128 = 0 ∧ bt b 2 = 0)
  · rw [if_neg h1, if_pos h2] at h; cases h
  by_cases h3 : bt b 3 = 0
  · rw [if_neg h1, if_neg h2, if_pos h3] at h; cases h
  by_cases h4 : b.length < 4 + 8 * (bt b 3).toNat
  · rw [if_neg h1, if_neg h2, if_neg h3, if_pos h4] at h; cases h
  rw [if_neg h1, if_neg h2, if_neg h3, if_neg h4] at h ⊢
  obtain ⟨k1, k2, k3, k4⟩ := tailE_ok h
  have h2 := Classical.byContradiction h2
  have hx := bt_rng b 1
  have hz := bt_rng b 3
  obtain ⟨g1, g2⟩ := destG_again (b := b) (bt b 3).toNat 4 (by omega)
  have hlen := destG_len b (bt b 3).toNat 4
  refine ⟨k1, ⟨rfl, bare_of rfl, by show bt b 1 / 128 = 0 ∨ bt b 1 / 128 = 1; omega, by show 1 ≤ (destG b (bt b 3).toNat 4).length ∧ (destG b (bt b 3).toNat 4).length ≤ 255; omega, List.all_eq_true.2 g1, allE_iff.2 k2⟩, ?_, by show (getE (b.drop (4 + 8 * (bt b 3).toNat))).1.length ≤ _; omega⟩
  show [3, u8of (128 * (bt b 1 / 128)), 0, u8of ((destG b (bt b 3).toNat 4).length : Int)] ++ (dests (destG b (bt b 3).toNat 4) ++ encS (getE (b.drop (4 + 8 * (bt b 3).toNat))).1) = b
  rw [k3, g2, hlen, show 128 * (bt b 1 / 128) = bt b 1 by omega, show (((bt b 3).toNat : Nat) : Int) = bt b 3 by omega]
  have := head4 (b := b) (by omega)
  rw [h0, h2.2] at this
  exact this
end Go.VP
set_option linter.unusedVariables false
set_option linter.unusedSimpArgs false
set_option maxRecDepth 100000
namespace Go.VP
open Go Go.VI
theorem avB_cases {m : Msg} (h : avB m = true) : RqR m ∨ RpR m ∨ AkR m ∨ ReR m := by
  unfold avB at h
  simp only [Bool.or_eq_true, rqB_iff, rpB_iff, reB_iff] at h
  rcases h with h | (h | h) | h
  · exact .inl h
  · exact .inr (.inl h)
  · exact .inr (.inr (.inl h))
  · exact .inr (.inr (.inr h))
theorem avB_of {m : Msg} (h : RqR m ∨ RpR m ∨ AkR m ∨ ReR m) : avB m = true := by
  unfold avB
  simp only [Bool.or_eq_true, rqB_iff, rpB_iff, reB_iff]
  rcases h with h | h | h | h
  · exact .inl h
  · exact .inr (.inl (.inl h))
  · exact .inr (.inl (.inr h))
  · exact .inr (.inr h)
theorem put_rq {m : Msg} (h : RqR m) : avPut m = rqBytes m := by unfold avPut; rw [if_pos (rqB_iff.2 h)]
theorem put_rp {m : Msg} (h : RpR m) : avPut m = rpBytes m := by
  have := h.kind
  unfold avPut; rw [if_neg (fun q => by have := (rqB_iff.1 q).kind; omega), if_pos (rpB_iff.2 (.inl h)), if_neg (by omega)]
theorem put_ak {m : Msg} (h : AkR m) : avPut m = akBytes m := by
  have := h.kind
  unfold avPut; rw [if_neg (fun q => by have := (rqB_iff.1 q).kind; omega), if_pos (rpB_iff.2 (.inr h)), if_pos (by omega)]
theorem put_re {m : Msg} (h : ReR m) : avPut m = reBytes m := by
  have := h.kind
  unfold avPut; rw [if_neg (fun q => by have := (rqB_iff.1 q).kind; omega), if_neg (fun q => by rcases rpB_iff.1 q with q | q <;> (have := q.kind; omega)), if_pos (reB_iff.2 h)]
theorem encAv_one {m : Msg} (h : avB m = true) : encAv [m] = if 65535 < (avPut m).length then ([], 0, 10) else (avPut m, 0, 0) := by
  unfold encAv
  rw [badP_ok (fun x hx => by rw [List.mem_singleton.1 hx]; exact h)]
theorem tailE_place {b : Bs} {p : Nat} {m : Msg} (hp : p ≤ b.length) : 0 ≤ (tailE b p m).2.1 ∧ (tailE b p m).2.1 ≤ b.length := by
  have := getE_place (b.drop p)
  rw [List.length_drop] at this
  unfold tailE
  split
  · dsimp only; omega
  · dsimp only; omega
theorem avGet_place {b : Bs} (h : 1 ≤ b.length) : 0 ≤ (avGet b).2.1 ∧ (avGet b).2.1 ≤ b.length := by
  unfold avGet
  split
  · unfold rqGet
    split
    · dsimp only; omega
    split
    · dsimp only; omega
    · exact tailE_place (by omega)
  split
  · unfold reGet
    split
    · dsimp only; omega
    split
    · dsimp only; omega
    split
    · dsimp only; omega
    split
    · dsimp only; omega
    · exact tailE_place (by omega)
  · unfold rpGet
    split
    · split
      · dsimp only; omega
      split
      · dsimp only; omega
      · exact tailE_place (by omega)
    · split
      · dsimp only; omega
      split
      · dsimp only; omega
      · exact tailE_place (by omega)
theorem av_parseerr {b : Bs} (h : (parseAv b).2.2 ≠ 0) : (parseAv b).1 = [] ∧ 0 ≤ (parseAv b).2.1 ∧ (parseAv b).2.1 ≤ b.length := by
  unfold parseAv at h ⊢
  split
  · exact ⟨rfl, by dsimp only; omega, by dsimp only; omega⟩
  · rename_i h1
    rw [if_neg h1] at h
    split
    · exact ⟨rfl, by dsimp only; omega, by dsimp only; omega⟩
    · rename_i h2
      rw [if_neg h2] at h
      split
      · exact ⟨rfl, by dsimp only; omega, by dsimp only; omega⟩
      · rename_i h3
        rw [if_neg h3] at h
        split
        · exact ⟨rfl, avGet_place (by omega)⟩
        · rename_i h4
          rw [if_neg h4] at h; exact absurd rfl h
theorem av_again {b : Bs} (h : (parseAv b).2.2 = 0) : ∃ m, parseAv b = ([m], 0, 0) ∧ avB m = true ∧ avPut m = b ∧ encAv [m] = (b, 0, 0) ∧ b.length ≤ 65535 ∧ m.subs.length ≤ b.length := by
  unfold parseAv at h ⊢
  by_cases h1 : 65535 < b.length
  · rw [if_pos h1] at h; cases h
  by_cases h2 : b.length = 0
  · rw [if_neg h1, if_pos h2] at h; cases h
  by_cases h3 : bt b 0 < 1 ∨ 4 < bt b 0
  · rw [if_neg h1, if_neg h2, if_pos h3] at h; cases h
  by_cases h4 : (avGet b).2.2 ≠ 0
  · rw [if_neg h1, if_neg h2, if_neg h3, if_pos h4] at h; exact absurd h h4
  rw [if_neg h1, if_neg h2, if_neg h3, if_neg h4]
  have h4 := Classical.byContradiction h4
  have fin : ∀ m, avGet b = (m, 0, 0) → avB m = true → avPut m = b → m.subs.length ≤ b.length → ∃ m', ([(avGet b).1], (0 : Int), (0 : Int)) = ([m'], 0, 0) ∧ avB m' = true ∧ avPut m' = b ∧ encAv [m'] = (b, 0, 0) ∧ b.length ≤ 65535 ∧ m'.subs.length ≤ b.length := fun m e hm hp hs => by
    refine ⟨m, by rw [e], hm, hp, ?_, by omega, hs⟩
    rw [encAv_one hm, hp, if_neg h1]
  by_cases c1 : bt b 0 = 1
  · have e : avGet b = rqGet b := by unfold avGet; rw [if_pos c1]
    rw [e] at h4 fin ⊢
    obtain ⟨k1, k2, k3, k4⟩ := rq_again c1 h4
    exact fin _ k1 (avB_of (.inl k2)) (by rw [put_rq k2, k3]) k4
  by_cases c3 : bt b 0 = 3
  · have e : avGet b = reGet b := by unfold avGet; rw [if_neg c1, if_pos c3]
    rw [e] at h4 fin ⊢
    obtain ⟨k1, k2, k3, k4⟩ := re_again c3 h4
    exact fin _ k1 (avB_of (.inr (.inr (.inr k2)))) (by rw [put_re k2, k3]) k4
  have e : avGet b = rpGet b := by unfold avGet; rw [if_neg c1, if_neg c3]
  rw [e] at h4 fin ⊢
  by_cases c4 : bt b 0 = 4
  · obtain ⟨k1, k2, k3, k4⟩ := ak_again (by omega) c4 h4
    exact fin _ k1 (avB_of (.inr (.inr (.inl k2)))) (by rw [put_ak k2, k3]) k4
  · obtain ⟨k1, k2, k3, k4⟩ := rp_again c4 (by have := bt_rng b 0; omega) h4
    exact fin _ k1 (avB_of (.inr (.inl k2))) (by rw [put_rp k2, k3]) k4
theorem AllE.fewS {l : List Sub} (h : AllE l) (hl : l.length ≤ 1000000) : FewS l := ⟨by omega, fun y hy => by have := (h y hy).2.2; omega⟩
theorem avB_good {m : Msg} (h : avB m = true) (hs : m.subs.length ≤ 1000000) : GoodV m := by
  have z : IntKind.has .i64 0 := has64.2 (by omega)
  have w8 : ∀ {n : Int}, W8 n → IntKind.has .i64 n := fun h => has64.2 (by have := h.1; have := h.2; omega)
  rcases avB_cases h with h | h | h | h
  · have hl : m.list = [] := congrArg S_api_Msg.list h.is
    have hi : m.interval = 0 := congrArg S_api_Msg.interval h.is
    exact ⟨h.nonce.has, h.seq.has, h.seq2.has, w8 h.hops, by rw [hi]; exact z, by rw [hl]; simp, by rw [hl]; intro d hd; (cases hd), (allE_iff.1 h.subs).fewS hs, hs⟩
  · have hl : m.list = [] := congrArg S_api_Msg.list h.is
    have h1 : m.nonce = 0 := congrArg S_api_Msg.nonce h.is
    have h2 : m.seq2 = 0 := congrArg S_api_Msg.seq2 h.is
    exact ⟨by rw [h1]; exact z, h.seq.has, by rw [h2]; exact z, w8 h.hops, h.life.has, by rw [hl]; simp, by rw [hl]; intro d hd; (cases hd), (allE_iff.1 h.subs).fewS hs, hs⟩
  · have hl : m.list = [] := congrArg S_api_Msg.list h.is
    have h1 : m.nonce = 0 := congrArg S_api_Msg.nonce h.is
    have h2 : m.seq2 = 0 := congrArg S_api_Msg.seq2 h.is
    have h3 : m.seq = 0 := congrArg S_api_Msg.seq h.is
    have h4 : m.hops = 0 := congrArg S_api_Msg.hops h.is
    have h5 : m.interval = 0 := congrArg S_api_Msg.interval h.is
    exact ⟨by rw [h1]; exact z, by rw [h3]; exact z, by rw [h2]; exact z, by rw [h4]; exact z, by rw [h5]; exact z, by rw [hl]; simp, by rw [hl]; intro d hd; (cases hd), (allE_iff.1 h.subs).fewS hs, hs⟩
  · have h1 : m.nonce = 0 := congrArg S_api_Msg.nonce h.is
    have h2 : m.seq2 = 0 := congrArg S_api_Msg.seq2 h.is
    have h3 : m.seq = 0 := congrArg S_api_Msg.seq h.is
    have h4 : m.hops = 0 := congrArg S_api_Msg.hops h.is
    have h5 : m.interval = 0 := congrArg S_api_Msg.interval h.is
    exact ⟨by rw [h1]; exact z, by rw [h3]; exact z, by rw [h2]; exact z, by rw [h4]; exact z, by rw [h5]; exact z, by have := h.len; omega, fun d hd => (destB_ok (List.all_eq_true.1 h.list d hd)).2.has, (allE_iff.1 h.subs).fewS hs, hs⟩
end Go.VP
set_option linter.unusedVariables false
set_option linter.unusedSimpArgs false
set_option maxRecDepth 100000
namespace Go.VP
open Go Go.VI
structure GoodQ (m : Msg) : Prop where
  rip : RM m
  ng : GoodG m
  av : GoodV m
  lean : GoodL m
open Classical in
noncomputable def rightP (p : Int) (m : Msg) : Bool := if p = 1 then rightR m else if p = 2 then ngB m else if p = 3 then avB m else if p = 4 then leanB m else false
end Go.VP
set_option linter.unusedVariables false
set_option linter.unusedSimpArgs false
set_option maxRecDepth 100000
namespace Go.VP
open Go Go.VI
theorem spl_place (s : Bs) : ∀ (p : Int), (∀ q, spl p s = .error q → p ≤ q ∧ q ≤ p + s.length) ∧ (∀ l, spl p s = .ok l → ∀ t ∈ l, p ≤ t.at_ ∧ t.at_ ≤ p + s.length) := by
  induction h : s.length using Nat.strongRecOn generalizing s with
  | ind n ih =>
    intro p
    subst h
    match s with
    | [] =>
      rw [spl_nil]
      exact ⟨(fun q h => by cases h), (fun l h => by cases h; intro t ht; cases ht)⟩
    | t :: r =>
      by_cases ht : t = 0
      · subst ht
        rw [spl_zero]
        obtain ⟨i1, i2⟩ := ih r.length (by simp) r rfl (p + 1)
        cases hr : spl (p + 1) r with
        | error q =>
          refine ⟨fun q' h => ?_, (fun l h => by cases h)⟩
          cases h
          have := i1 q hr
          simp only [List.length_cons]; omega
        | ok l =>
          refine ⟨(fun q' h => by cases h), fun l' h x hx => ?_⟩
          cases h
          rcases List.mem_cons.1 hx with rfl | hx
          · dsimp only; omega
          · have := i2 l hr x hx
            simp only [List.length_cons]; omega
      · match r with
        | [] =>
          rw [spl_one ht]
          exact ⟨(fun q h => by cases h; simp; omega), (fun l h => by cases h)⟩
        | n :: d =>
          by_cases hn : d.length < n.toNat
          · rw [spl_bad ht hn]
            exact ⟨(fun q h => by cases h; simp only [List.length_cons]; omega), (fun l h => by cases h)⟩
          · rw [spl_all ht (by omega)]
            have hdl : (d.drop n.toNat).length = d.length - n.toNat := List.length_drop
            obtain ⟨i1, i2⟩ := ih (d.drop n.toNat).length (by rw [hdl]; simp; omega) (d.drop n.toNat) rfl (p + 2 + n.toNat)
            rw [hdl] at i1 i2
            cases hr : spl (p + 2 + n.toNat) (d.drop n.toNat) with
            | error q =>
              refine ⟨fun q' h => ?_, (fun l h => by cases h)⟩
              cases h
              have := i1 q hr
              simp only [List.length_cons]; omega
            | ok l =>
              refine ⟨(fun q' h => by cases h), fun l' h x hx => ?_⟩
              cases h
              rcases List.mem_cons.1 hx with rfl | hx
              · simp only [List.length_cons]; omega
              · have := i2 l hr x hx
                simp only [List.length_cons]; omega
theorem foldR_place : ∀ (l : List Tlv) (c : Ctx) (acc : List Msg), (foldR c l acc).2.2.2 ≠ 0 → ∃ t ∈ l, (foldR c l acc).2.2.1 = t.at_
  | [], c, acc, h => absurd rfl h
  | t :: r, c, acc, h => by
    rw [foldR] at h ⊢
    by_cases he : (oneR c t.type_ t.data).2.2 ≠ 0
    · rw [if_pos he]; exact ⟨t, List.mem_cons_self .., rfl⟩
    · rw [if_neg he] at h ⊢
      obtain ⟨x, hx, e⟩ := foldR_place r _ _ h
      exact ⟨x, List.mem_cons_of_mem _ hx, e⟩
theorem parseI_place {b : Bs} (h : (parseI b).2.2 ≠ 0) : (parseI b).1 = [] ∧ 0 ≤ (parseI b).2.1 ∧ (parseI b).2.1 ≤ b.length := by
  refine ⟨(parseI_cases b).elim (fun q => q.2) (fun ⟨l, _, _, _, _, q⟩ => absurd (by rw [q]) h), ?_⟩
  unfold parseI at h ⊢
  by_cases h0 : (bodyF b).2.2 ≠ 0
  · rw [if_pos h0]; exact (bodyF_bad h0).2
  rw [if_neg h0] at h ⊢
  obtain ⟨l1, l2, _, _, l5, _, l7⟩ := bodyF_ok (Classical.byContradiction h0)
  have hr := sizeB_rng b
  have hbl : ((behF b).length : Int) = b.length - (4 + (bodyF b).1.length) := by unfold behF; rw [List.length_drop]; omega
  have p1 := spl_place (bodyF b).1 4
  have p2 := spl_place (behF b) (4 + ((bodyF b).1.length : Int))
  cases h1 : spl 4 (bodyF b).1 with
  | error q =>
    have := p1.1 q h1
    dsimp only; omega
  | ok l =>
    rw [h1] at h
    cases h2 : spl (4 + ((bodyF b).1.length : Int)) (behF b) with
    | error q =>
      have := p2.1 q h2
      dsimp only; omega
    | ok k =>
      rw [h2] at h
      dsimp only at h ⊢
      obtain ⟨t, ht, e⟩ := foldR_place l c0 [] h
      have := p1.2 l h1 t ht
      omega
noncomputable def parseP (p : Int) (b : Bs) : List Msg × Int × Int := if p = 1 then parseR b else if p = 2 then parseN b else if p = 3 then parseAv b else if p = 4 then parseI b else ([], 0, 1)
def GoodP (p : Int) (m : Msg) : Prop := (p = 1 → RM m) ∧ (p = 2 → GoodG m) ∧ (p = 3 → GoodV m) ∧ (p = 4 → GoodL m)
theorem GoodQ.p {m : Msg} (g : GoodQ m) (p : Int) : GoodP p m := ⟨fun _ => g.rip, fun _ => g.ng, fun _ => g.av, fun _ => g.lean⟩
theorem rsright_p {p : Int} {m : Msg} (g : GoodP p m) : g_ref26_Right (p, m, ()) = some ((rightP p m, ()), ()) := by
  rw [g_ref26_Right_eq]
  unfold rightP
  refine bq_step (fun h => by rw [if_pos h, rripRight_is (g.1 h)]; rfl) (fun h1 => ?_)
  rw [if_neg h1]
  refine bq_step (fun h => by rw [if_pos h, rngright_is (g.2.1 h)]; rfl) (fun h2 => ?_)
  rw [if_neg h2]
  refine bq_step (fun h => by rw [if_pos h, ravright_is (g.2.2.1 h)]; rfl) (fun h3 => ?_)
  rw [if_neg h3]
  refine bq_step (fun h => by rw [if_pos h, rlright_is (g.2.2.2 h)]; rfl) (fun h4 => ?_)
  rw [if_neg h4]
theorem sparse_is {p : Int} {b : Bs} (hb : b.length ≤ 100000) : g_suite_Parse (p, b, ()) = some (trip (parseP p b), ()) := by
  rw [g_suite_Parse_eq]
  unfold parseP
  refine bq_step (fun h => by rw [if_pos h, parse_is hb]; rfl) (fun h1 => ?_)
  rw [if_neg h1]
  refine bq_step (fun h => by rw [if_pos h, ngparse_is (by omega)]; rfl) (fun h2 => ?_)
  rw [if_neg h2]
  refine bq_step (fun h => by rw [if_pos h, avparse_is (by omega)]; rfl) (fun h3 => ?_)
  rw [if_neg h3]
  refine bq_step (fun h => by rw [if_pos h, iparse_is]; rfl) (fun h4 => ?_)
  rw [if_neg h4]
theorem p_parseerr {p : Int} {b : Bs} (h : (parseP p b).2.2 ≠ 0) : (parseP p b).1 = [] ∧ 0 ≤ (parseP p b).2.1 ∧ (parseP p b).2.1 ≤ b.length := by
  unfold parseP at h ⊢
  by_cases h1 : p = 1
  · simp only [if_pos h1] at h ⊢; exact parseR_err h
  simp only [if_neg h1] at h ⊢
  by_cases h2 : p = 2
  · simp only [if_pos h2] at h ⊢; exact ng_parseerr h
  simp only [if_neg h2] at h ⊢
  by_cases h3 : p = 3
  · simp only [if_pos h3] at h ⊢; exact av_parseerr h
  simp only [if_neg h3] at h ⊢
  by_cases h4 : p = 4
  · simp only [if_pos h4] at h ⊢; exact parseI_place h
  · simp only [if_neg h4] at h ⊢
    exact ⟨trivial, by simp, by simp⟩
theorem ngR_good {m : Msg} (h : NgR m) : GoodG m ∧ Small m := by
  have hl : m.list = [] := congrArg S_api_Msg.list h.is
  have hs : m.subs = [] := congrArg S_api_Msg.subs h.is
  have := h.tag
  have := h.plen
  have := h.cmd
  exact ⟨⟨has64.2 (by omega), has64.2 (by omega), has64.2 (by omega), by rw [hl]; simp, by rw [hs]; simp⟩, by rw [hl]; simp, by rw [hs]; simp⟩
theorem rm_parse2 {b : Bs} : ∀ m ∈ (parseR b).1, okR m → RM m := fun m hm ho => by
  have hs := parseR_all (b := b) (P := fun m => m.list.length ≤ 1000000000 ∧ m.subs.length ≤ 1000000000) (fun c v s e => by simp [routeM]) m hm
  obtain ⟨_, _, _, _, _, _, _, h⟩ := ho
  exact ⟨has64.2 (by omega), has64.2 (by omega), hs.1, hs.2⟩
theorem p_parsed {p : Int} {b : Bs} (hb : b.length ≤ 100000) (h : (parseP p b).2.2 = 0) : (parseP p b).2.1 = 0 ∧ (∀ m ∈ (parseP p b).1, rightP p m = true ∧ GoodP p m ∧ Small m) ∧ (parseP p b).1.length ≤ 65535 ∧ (p = 1 → (parseP p b).1.length ≤ 1000) := by
  unfold parseP at h ⊢
  unfold rightP GoodP
  by_cases h1 : p = 1
  · simp only [if_pos h1] at h ⊢
    obtain ⟨r, r1, r2, r3, r4, r5⟩ := parse_good h
    have hrm := rm_parse2 (b := b)
    rw [r1] at hrm ⊢
    exact ⟨rfl, fun m hm => ⟨rightR_true.2 (r4 m hm), ⟨fun _ => hrm m hm (r4 m hm), fun q => by omega, fun q => by omega, fun q => by omega⟩, (hrm m hm (r4 m hm)).list, (hrm m hm (r4 m hm)).subs⟩, by dsimp only; omega, fun _ => by dsimp only; omega⟩
  simp only [if_neg h1] at h ⊢
  by_cases h2 : p = 2
  · simp only [if_pos h2] at h ⊢
    obtain ⟨k0, k1, k2, k3, _, _⟩ := ng_again h
    exact ⟨k0, fun m hm => ⟨ngR_iff.2 (k1 m hm), ⟨fun q => by omega, fun _ => (ngR_good (k1 m hm)).1, fun q => by omega, fun q => by omega⟩, (ngR_good (k1 m hm)).2⟩, by omega, fun q => absurd q h1⟩
  simp only [if_neg h2] at h ⊢
  by_cases h3 : p = 3
  · simp only [if_pos h3] at h ⊢
    obtain ⟨m, k1, k2, k3, k4, k5, k6⟩ := av_again h
    rw [k1]
    have hg := avB_good k2 (by omega)
    exact ⟨rfl, fun x hx => by rw [List.mem_singleton.1 hx]; exact ⟨k2, ⟨fun q => by omega, fun q => by omega, fun _ => hg, fun q => by omega⟩, by have := hg.list; omega, by have := hg.subs1; omega⟩, by simp, fun q => absurd q h1⟩
  simp only [if_neg h3] at h ⊢
  by_cases h4 : p = 4
  · simp only [if_pos h4] at h ⊢
    obtain ⟨k1, k2⟩ := parseI_right b
    refine ⟨?_, fun m hm => ⟨leanR_iff.2 (k1 m hm).1, ⟨fun q => by omega, fun q => by omega, fun q => by omega, fun _ => (k1 m hm).2⟩, (k1 m hm).2.small⟩, k2, fun q => absurd q h1⟩
    rcases parseI_cases b with ⟨q, _⟩ | ⟨l, _, _, _, _, q⟩
    · exact absurd h q
    · rw [q]
  · simp only [if_neg h4] at h; cases h
end Go.VP
set_option linter.unusedVariables false
set_option linter.unusedSimpArgs false
set_option maxRecDepth 100000
namespace Go.VP
open Go Go.VI
theorem awakeT : g_top_awake () = some ((true, ()), ()) := by kernel_rfl
theorem awbT {α : Type} (f : (Bool × Unit) × Unit → Option α) : (g_top_awake ()).bind f = f ((true, ()), ()) := by rw [awakeT]; rfl
end Go.VP
set_option linter.unusedVariables false
set_option linter.unusedSimpArgs false
set_option maxRecDepth 100000
namespace Go.VP
open Go Go.VI
theorem kind4 {x : Int} (h : 0 ≤ x ∧ x ≤ 255) : 1 ≤ IntKind.wrap .i64 (1 + IntKind.wrap .i64 (x.tmod 4)) ∧ IntKind.wrap .i64 (1 + IntKind.wrap .i64 (x.tmod 4)) ≤ 4 := by
  rw [Int.tmod_eq_emod_of_nonneg h.1, w64 (x := x % 4) (by omega) (by omega), w64 (by omega) (by omega)]; omega
end Go.VP
