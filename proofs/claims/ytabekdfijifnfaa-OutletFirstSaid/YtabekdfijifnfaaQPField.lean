/- Fields' messages: whether one may be, its bytes, that of bytes. -/
import Derived.Test.YtabekdfijifnfaaQFQ1
import Derived.Test.YtabekdfijifnfaaQFQ2
import Derived.Test.YtabekdfijifnfaaQFQ3
import Derived.Test.YtabekdfijifnfaaQPBase
import Derived.Test.YtabekdfijifnfaaQPCur
import Derived.Test.YtabekdfijifnfaaQPOct
import Derived.Test.YtabekdfijifnfaaQPTlv
import Derived.Test.YtabekdfijifnfaaQPSub
import Derived.Test.YtabekdfijifnfaaQPMsg
import Derived.Test.YtabekdfijifnfaaQPAddr
set_option linter.unusedVariables false
set_option linter.unusedSimpArgs false
set_option maxRecDepth 100000
namespace Go.VP
open Go Go.VI
def addrB (ae : Int) (a : Bs) : Bool := if ae = 0 then a == [] else if ae = 1 then decide (a.length = 4) else if ae = 2 then decide (a.length = 16) else if ae = 3 then linkB a else false
theorem addr_is (ae : Int) (a : Bs) : g_field_address (ae, a, ()) = some ((addrB ae a, ()), ()) := by
  rw [g_field_address_eq, fam_is, link_is]
  unfold addrB
  refine bq_step (fun h => ?_) (fun h => ?_)
  · rw [if_pos h]
  rw [if_neg h]
  refine bq_step (fun h => ?_) (fun h => ?_)
  · rw [if_pos h, Option.bind_some]
    unfold famF; split
    · simp [*]
    · split <;> simp [*]
  rw [if_neg h]
  refine bq_step (fun h => ?_) (fun h => ?_)
  · rw [if_pos h, Option.bind_some]
    unfold famF; split
    · simp [*]
    · split <;> simp [*]
  rw [if_neg h]
  refine bq_step (fun h => ?_) (fun h => ?_)
  · rw [if_pos h, Option.bind_some]
  rw [if_neg h]
theorem raddr_is (ae : Int) (a : Bs) : g_ref20_addr (ae, a, ()) = some ((addrB ae a, ()), ()) := by
  rw [g_ref20_addr_eq, rlink_is]
  unfold addrB
  refine bq_step (fun h => ?_) (fun h => ?_)
  · rw [if_pos h]
  rw [if_neg h]
  refine bq_step (fun h => ?_) (fun h => ?_)
  · rw [if_pos h]
    have : ((a.length : Int) == 4) = decide (a.length = 4) := by rw [Bool.eq_iff_iff]; simp; omega
    rw [this]
  rw [if_neg h]
  refine bq_step (fun h => ?_) (fun h => ?_)
  · rw [if_pos h]
    have : ((a.length : Int) == 16) = decide (a.length = 16) := by rw [Bool.eq_iff_iff]; simp; omega
    rw [this]
  rw [if_neg h]
  refine bq_step (fun h => ?_) (fun h => ?_)
  · rw [if_pos h, Option.bind_some]
  rw [if_neg h]
def kindF (m : Msg) : Bool := if m.kind = 7 then true else if m.kind = 8 then true else if m.kind = 9 then (m.flags == 0 || m.flags == 1) else if m.kind = 10 then addrB m.ae m.addr else false
noncomputable def fieldB (m : Msg) : Bool := fitsB m.nonce 2 && (fitsB m.interval 2 && (fitsB m.seq 2 && (fitsB m.cost 2 && (bareB m && (rightB m.subs && kindF m)))))
structure GoodM (m : Msg) : Prop where
  few : Lite m
  nonce : IntKind.has .i64 m.nonce
  interval : IntKind.has .i64 m.interval
  seq : IntKind.has .i64 m.seq
  cost : IntKind.has .i64 m.cost
  kind : IntKind.has .i64 m.kind
  flags : IntKind.has .i64 m.flags
  ae : IntKind.has .i64 m.ae
  plen : IntKind.has .i64 m.plen
  hops : IntKind.has .i64 m.hops
theorem kindF_is {m : Msg} {c : Option ((Bool × Unit) × Unit)} (hc : c = some ((addrB m.ae m.addr, ()), ())) :
  (if (m.kind == 7) = true then (if (m.kind == 7) = true then some ((true, ()), ()) else (if (m.kind == 9) = true then (if (m.flags == 0) = true then some ((true, ()), ()) else some (((m.flags == 1), ()), ())) else (if (m.kind == 10) = true then (c.bind fun r5 => some ((r5.1.1, ()), ())) else some ((false, ()), ())))) else (if (m.kind == 8) = true then some ((true, ()), ()) else (if (m.kind == 9) = true then (if (m.flags == 0) = true then some ((true, ()), ()) else some (((m.flags == 1), ()), ())) else (if (m.kind == 10) = true then (c.bind fun r6 => some ((r6.1.1, ()), ())) else some ((false, ()), ()))))) = some ((kindF m, ()), ()) := by
  subst hc
  unfold kindF
  refine bq_step (fun h => ?_) (fun h => ?_)
  · rw [if_pos h, if_pos (by simp [h])]
  rw [if_neg h]
  refine bq_step (fun h => ?_) (fun h => ?_)
  · rw [if_pos h]
  rw [if_neg h]
  refine bq_step (fun h => ?_) (fun h => ?_)
  · rw [if_pos h]
    refine bq_step (fun h2 => ?_) (fun h2 => ?_)
    · simp [h2]
    · have : (m.flags == 0) = false := by simpa using h2
      rw [this, Bool.false_or]
  rw [if_neg h]
  refine bq_step (fun h => ?_) (fun h => ?_)
  · rw [if_pos h, Option.bind_some]
  rw [if_neg h]
theorem right_is {m : Msg} (g : GoodM m) : g_field_Right (m, ()) = some ((fieldB m, ()), ()) := by
  have f2 : ∀ {n : Int}, IntKind.has .i64 n → g_octet_Fits (n, 2, ()) = some ((fitsB n 2, ()), ()) := fun h => fits_is (k := 2) h (by omega) (by omega)
  obtain ⟨c, hc⟩ := fuel_pos
  show h_field_Right fuel _ = _
  rw [h_field_Right_eq, show ([m.nonce, m.interval, m.seq, m.cost] : List Int).length = 4 from rfl]
  have e0 : fuel = (c + 999999999995) + 5 := by omega
  have st : ∀ (k : Nat) (i : Nat) (x : Int), [m.nonce, m.interval, m.seq, m.cost][i]? = some x → i < 4 → IntKind.has .i64 x → L_field_Right_0 fuel (k + 1) m [m.nonce, m.interval, m.seq, m.cost] ((4 : Nat) : Int) i = (if (!fitsB x 2) = true then some ((false, ()), ()) else L_field_Right_0 fuel k m [m.nonce, m.interval, m.seq, m.cost] ((4 : Nat) : Int) ((i + 1 : Nat) : Int)) := by
    intro k i x hx hi hh
    rw [L_field_Right_0_eq, ifd (by omega), if_pos (by omega), Int.toNat_natCast, hx, Option.bind_some, f2 hh, Option.bind_some, w64 (by omega) (by omega)]
    rfl
  have last : ∀ k, L_field_Right_0 fuel (k + 1) m [m.nonce, m.interval, m.seq, m.cost] ((4 : Nat) : Int) ((4 : Nat) : Int) = some ((bareB m && (rightB m.subs && kindF m), ()), ()) := by
    intro k
    rw [L_field_Right_0_eq, ifn (by omega), bare_is, Option.bind_some, sright_is g.few.fewS, Option.bind_some]
    dsimp only
    rw [kindF_is (addr_is _ _)]
    cases bareB m
    · rfl
    · cases rightB m.subs <;> rfl
  have := st (c + 999999999999) 0 m.nonce rfl (by omega) g.nonce
  rw [show c + 999999999999 + 1 = fuel by omega] at this
  rw [show (0 : Int) = ((0 : Nat) : Int) from rfl, this]
  have := st (c + 999999999998) 1 m.interval rfl (by omega) g.interval
  rw [this]
  have := st (c + 999999999997) 2 m.seq rfl (by omega) g.seq
  rw [this]
  have := st (c + 999999999996) 3 m.cost rfl (by omega) g.cost
  rw [this]
  have := last (c + 999999999995)
  rw [this]
  unfold fieldB
  cases fitsB m.nonce 2
  · rfl
  · cases fitsB m.interval 2
    · rfl
    · cases fitsB m.seq 2
      · rfl
      · cases fitsB m.cost 2 <;> rfl
theorem rtwo_is (n : Int) : g_ref20_two (n, ()) = some ((fitsB n 2, ()), ()) := by
  have := rfits_is (n := n) (k := 2) (by omega) (by omega)
  rw [g_ref20_two_eq, show (2 : Int) = ((2 : Nat) : Int) from rfl, this]; rfl
theorem rright_is {m : Msg} (g : GoodM m) : g_ref20_Right (m, ()) = some ((fieldB m, ()), ()) := by
  have := g.few.list; have := g.few.subs
  rw [g_ref20_Right_eq, rbare_is (by omega) (by omega), Option.bind_some, rsright_is g.few.fewS, Option.bind_some]
  simp only [rtwo_is, Option.bind_some]
  rw [kindF_is (raddr_is _ _)]
  unfold fieldB
  cases bareB m
  · simp
  · cases rightB m.subs
    · simp
    · cases fitsB m.nonce 2
      · rfl
      · cases fitsB m.interval 2
        · rfl
        · cases fitsB m.seq 2
          · rfl
          · cases fitsB m.cost 2 <;> rfl
def fieldsF (m : Msg) : Bs :=
  if m.kind = 7 then be 2 0 ++ (be 2 m.nonce ++ be 2 m.interval)
  else if m.kind = 8 then be 2 m.nonce
  else if m.kind = 9 then be 2 (32768 * m.flags) ++ (be 2 m.seq ++ be 2 m.interval)
  else be 2 (256 * m.ae) ++ (be 2 m.cost ++ (be 2 m.interval ++ (if m.ae = 3 then m.addr.drop 8 else m.addr)))
noncomputable def fieldPut (m : Msg) : Bs × Bool := if fieldB m = true then tput (m.kind - 5) (fieldsF m ++ encS m.subs) else ([], false)
theorem be2 {n : Int} (h : 0 ≤ n ∧ n < 65536) : [u8of (IntKind.wrap .u8 (ishr .i64 n 8)), u8of (IntKind.wrap .u8 n)] = be 2 n := by
  have e : ishr .i64 n 8 = n / 256 := by
    unfold ishr
    rw [show ((2 : Int) ^ min (8 : Int).toNat IntKind.i64.bits) = 256 by decide]
    exact Int.fdiv_eq_ediv_of_nonneg _ (by decide)
  rw [e, wu8, wu8]; rfl
theorem two_loop {l : List Int} {n : Nat} (hl : l.length ≤ 10) (hr : ∀ x ∈ l, 0 ≤ x ∧ x < 65536) : ∀ (d m i : Nat) (b : Bs), i + d = l.length → d < m → b.length ≤ 1000 + 2 * i →
    L_field_writer_two_0 n m l i b = some ((), (⟨b ++ (l.drop i).flatMap (be 2)⟩, ())) := by
  intro d
  induction d with
  | zero =>
    intro m i b hd hm hb
    obtain ⟨m, rfl⟩ : ∃ k, m = k + 1 := ⟨m - 1, by omega⟩
    rw [L_field_writer_two_0_eq, ifn (by omega), List.drop_eq_nil_of_le (by omega)]
    simp
  | succ d ih =>
    intro m i b hd hm hb
    obtain ⟨m, rfl⟩ : ∃ k, m = k + 1 := ⟨m - 1, by omega⟩
    have hi : i < l.length := by omega
    have := ih m (i + 1) (b ++ be 2 l[i]) (by omega) (by omega) (by simp [be_length]; omega)
    rw [show ((i + 1 : Nat) : Int) = (i : Int) + 1 by omega] at this
    rw [L_field_writer_two_0_eq, ifd (by omega), if_pos (by omega), Int.toNat_natCast, bind_at hi, if_pos (roomB_of (by simp; omega)), be2 (hr _ (List.getElem_mem hi)), w64 (by omega) (by omega), this, List.drop_eq_getElem_cons hi]
    simp only [List.flatMap_cons, List.append_assoc]
theorem two_is {l : List Int} {b : Bs} (hl : l.length ≤ 10) (hr : ∀ x ∈ l, 0 ≤ x ∧ x < 65536) (hb : b.length ≤ 1000) : g_field_writer_two (⟨b⟩, l, ()) = some ((), (⟨b ++ l.flatMap (be 2)⟩, ())) := by
  show h_field_writer_two fuel _ = _
  rw [h_field_writer_two_eq]
  exact two_loop (n := fuel) hl hr l.length fuel 0 b (by omega) (fuel_ge (by omega)) (by omega)
structure FieldR (m : Msg) : Prop where
  nonce : 0 ≤ m.nonce ∧ m.nonce < 65536
  interval : 0 ≤ m.interval ∧ m.interval < 65536
  seq : 0 ≤ m.seq ∧ m.seq < 65536
  cost : 0 ≤ m.cost ∧ m.cost < 65536
  bare : bareB m = true
  subs : rightB m.subs = true
  kind : kindF m = true
theorem fitsB2 {n : Int} : fitsB n 2 = true ↔ 0 ≤ n ∧ n < 65536 := by simp [fitsB]
theorem fieldR_iff {m : Msg} : fieldB m = true ↔ FieldR m := by
  unfold fieldB
  simp only [Bool.and_eq_true, fitsB2]
  exact ⟨fun ⟨a, b, c, d, e, f, g⟩ => ⟨a, b, c, d, e, f, g⟩, fun h => ⟨h.1, h.2, h.3, h.4, h.5, h.6, h.7⟩⟩
theorem FieldR.kinds {m : Msg} (h : FieldR m) : m.kind = 7 ∨ m.kind = 8 ∨ (m.kind = 9 ∧ (m.flags = 0 ∨ m.flags = 1)) ∨ (m.kind = 10 ∧ addrB m.ae m.addr = true) := by
  have := h.kind
  unfold kindF at this
  split at this
  · omega
  · split at this
    · omega
    · split at this
      · simp at this; exact .inr (.inr (.inl ⟨by assumption, this⟩))
      · split at this
        · exact .inr (.inr (.inr ⟨by assumption, this⟩))
        · cases this
theorem addrB_cases {ae : Int} {a : Bs} (h : addrB ae a = true) : (ae = 0 ∧ a = []) ∨ (ae = 1 ∧ a.length = 4) ∨ (ae = 2 ∧ a.length = 16) ∨ (ae = 3 ∧ linkB a = true) := by
  unfold addrB at h
  split at h
  · simp at h; exact .inl ⟨by assumption, h⟩
  · split at h
    · simp at h; exact .inr (.inl ⟨by assumption, h⟩)
    · split at h
      · simp at h; exact .inr (.inr (.inl ⟨by assumption, h⟩))
      · split at h
        · exact .inr (.inr (.inr ⟨by assumption, h⟩))
        · cases h
theorem ishl_ok {x : Int} {k : Nat} (hx : 0 ≤ x ∧ x < 65536) (hk : k ≤ 15) : ishl .i64 x k = 2 ^ k * x := by
  unfold ishl
  rw [Int.mul_comm]
  have e : min (k : Int).toNat IntKind.i64.bits = k := by simp only [IntKind.bits]; omega
  rw [e]
  have hp : (2 : Int) ^ k ≤ 32768 ∧ 1 ≤ (2 : Int) ^ k := by
    match k, hk with
    | 0, _ | 1, _ | 2, _ | 3, _ | 4, _ | 5, _ | 6, _ | 7, _ | 8, _ | 9, _ | 10, _ | 11, _ | 12, _ | 13, _ | 14, _ | 15, _ => decide
  have h1 : x * 2 ^ k ≤ 65536 * 32768 := Int.mul_le_mul (by omega) hp.1 (by omega) (by omega)
  have h0 : 0 ≤ x * 2 ^ k := Int.mul_nonneg hx.1 (by omega)
  rw [w64 (by omega) (by omega), Int.mul_comm]
theorem putS_r {l : List Sub} (h : rightB l = true) : putS l = (encS l, true) := by unfold putS; rw [if_pos h]
theorem encS_small {l : List Sub} (h : rightB l = true) : (encS l).length ≤ 200 := by
  have := (rightB_split h).2; have := encS_length l; omega
theorem put_is {m : Msg} (g : GoodM m) : g_field_Put (m, ()) = some (((fieldPut m).1, (fieldPut m).2, ()), ()) := by
  rw [g_field_Put_eq, right_is g, Option.bind_some]
  unfold fieldPut
  dsimp only
  by_cases h : fieldB m = true
  · have r := fieldR_iff.1 h
    have hs := sput_is g.few.fewS (by have := g.few.subs; omega)
    rw [putS_r r.subs] at hs
    have hz := encS_small r.subs
    rw [if_neg (by simp [h]), if_pos h, hs]
    simp only [Option.bind_some]
    rcases r.kinds with hk | hk | ⟨hk, hf⟩ | ⟨hk, ha⟩
    · rw [if_pos (by simp [hk]), two_is (by simp) (by have := r.nonce; have := r.interval; simp; omega) (by simp), Option.bind_some]
      dsimp only
      rw [if_pos (maxB_of (by simp [be_length]; omega)), tput_is, w64 (x := m.kind - 7) (by omega) (by omega), w64 (by omega) (by omega)]
      simp [fieldsF, hk]
    · rw [if_neg (by simp [hk]), if_pos (by simp [hk]), two_is (by simp) (by have := r.nonce; simp; omega) (by simp), Option.bind_some]
      dsimp only
      rw [if_pos (maxB_of (by simp [be_length]; omega)), tput_is, w64 (x := m.kind - 7) (by omega) (by omega), w64 (by omega) (by omega)]
      simp [fieldsF, hk]
    · rw [if_neg (by simp [hk]), if_neg (by simp [hk]), if_pos (by simp [hk]), show (15 : Int) = ((15 : Nat) : Int) from rfl, ishl_ok (by omega) (by omega), two_is (by simp) (by have := r.seq; have := r.interval; simp; omega) (by simp), Option.bind_some]
      dsimp only
      rw [if_pos (maxB_of (by simp [be_length]; omega)), tput_is, w64 (x := m.kind - 7) (by omega) (by omega), w64 (by omega) (by omega)]
      simp [fieldsF, hk]
    · have hc := addrB_cases ha
      have hl : m.addr.length ≤ 16 := by rcases hc with ⟨_, h⟩ | ⟨_, h⟩ | ⟨_, h⟩ | ⟨_, h⟩ <;> first | (rw [h]; simp; done) | omega | (have := linkB_len h; omega)
      rw [if_neg (by simp [hk]), if_neg (by simp [hk]), if_neg (by simp [hk]), if_pos (by simp [hk]), show (8 : Int) = ((8 : Nat) : Int) from rfl, ishl_ok (by omega) (by omega), two_is (by simp) (by have := r.cost; have := r.interval; simp; omega) (by simp), Option.bind_some, short_is, Option.bind_some]
      dsimp only
      have fin : ∀ a : Bs, a.length ≤ 16 → fieldsF m = be 2 (256 * m.ae) ++ (be 2 m.cost ++ (be 2 m.interval ++ a)) → (if roomB (([] ++ [2 ^ 8 * m.ae, m.cost, m.interval].flatMap (be 2)).length + a.length) = true then (if maxB ((([] ++ [2 ^ 8 * m.ae, m.cost, m.interval].flatMap (be 2)) ++ a).length + (encS m.subs).length) = true then ((g_frame_Put ((IntKind.wrap .i64 ((IntKind.wrap .i64 (m.kind - 7)) + 2)), ((([] ++ [2 ^ 8 * m.ae, m.cost, m.interval].flatMap (be 2)) ++ a) ++ encS m.subs), ())).bind fun r14 => some ((r14.1.1, r14.1.2.1, ()), ())) else none) else none) = some (((tput (m.kind - 5) (fieldsF m ++ encS m.subs)).1, (tput (m.kind - 5) (fieldsF m ++ encS m.subs)).2, ()), ()) := by
        intro a ha he
        rw [if_pos (roomB_of (by simp [be_length]; omega)), if_pos (maxB_of (by simp [be_length]; omega)), tput_is, w64 (x := m.kind - 7) (by omega) (by omega), w64 (by omega) (by omega), he]
        simp [hk]
      unfold shortF
      by_cases hb : linkB m.addr = true
      · rw [hb, ift, ift]
        dsimp only
        refine bq_step (fun h3 => ?_) (fun h3 => ?_)
        · exact fin _ (by simp; omega) (by simp [fieldsF, hk, h3])
        · exact fin _ hl (by simp [fieldsF, hk, h3])
      · have h3 : m.ae ≠ 3 := fun h3 => by rcases hc with ⟨h, _⟩ | ⟨h, _⟩ | ⟨h, _⟩ | ⟨_, h⟩ <;> first | omega | exact hb h
        rw [Bool.not_eq_true] at hb
        rw [hb, iff_, iff_]
        exact fin _ hl (by simp [fieldsF, hk, h3])
  · rw [Bool.not_eq_true] at h
    rw [h, ifnf, iff_]
theorem oput_of {n : Int} {k : Nat} (h : fitsB n k = true) : (oput n k).1 = be k n := by unfold oput; rw [if_pos h]
theorem rof2 {n : Int} (h : 0 ≤ n ∧ n < 65536) : g_ref02_Of (n, 2, ()) = some ((be 2 n, ()), ()) := by
  have := rof_is (n := n) (k := 2) (has64.2 ⟨by omega, by omega⟩) (by omega) (by omega)
  rw [oput_of (fitsB2.2 h)] at this
  exact this
theorem rof1 {n : Int} (h : 0 ≤ n ∧ n < 256) : g_ref02_Of (n, 1, ()) = some ((be 1 n, ()), ()) := by
  have := rof_is (n := n) (k := 1) (has64.2 ⟨by omega, by omega⟩) (by omega) (by omega)
  rw [oput_of (by simp [fitsB]; omega)] at this
  exact this
theorem be2_256 {n : Int} (h : 0 ≤ n ∧ n < 256) : be 2 (256 * n) = be 1 n ++ [0] := by
  show ([] ++ [u8of ((256 * n / 256) % 256)]) ++ [u8of ((256 * n) % 256)] = ([] ++ [u8of (n % 256)]) ++ [0]
  rw [show 256 * n / 256 = n by omega, show 256 * n % 256 = 0 by omega]; rfl
theorem rfields_is {m : Msg} (r : FieldR m) (hl : m.addr.length ≤ 400) : g_ref20_fields (m, ()) = some ((m.kind - 5, fieldsF m, ()), ()) := by
  rw [g_ref20_fields_eq, rof2 r.interval, Option.bind_some]
  dsimp only
  rcases r.kinds with hk | hk | ⟨hk, hf⟩ | ⟨hk, ha⟩
  · rw [if_pos (by simp [hk]), rof2 r.nonce, Option.bind_some, if_pos (maxB_of (by simp [be_length])), if_pos (maxB_of (by simp [be_length]))]
    simp [fieldsF, hk]; rfl
  · rw [if_neg (by simp [hk]), if_pos (by simp [hk]), rof2 r.nonce, Option.bind_some]
    simp [fieldsF, hk]
  · rw [if_neg (by simp [hk]), if_neg (by simp [hk]), if_pos (by simp [hk]), w64 (by omega) (by omega), rof2 (by omega), Option.bind_some, rof2 r.seq, Option.bind_some, if_pos (maxB_of (by simp [be_length])), if_pos (maxB_of (by simp [be_length]))]
    simp [fieldsF, hk]
  · have hc := addrB_cases ha
    have hae : 0 ≤ m.ae ∧ m.ae < 256 := by rcases hc with ⟨h, _⟩ | ⟨h, _⟩ | ⟨h, _⟩ | ⟨h, _⟩ <;> omega
    have hd : (m.addr.drop 8).length ≤ 400 := by simp; omega
    rw [if_neg (by simp [hk]), if_neg (by simp [hk]), if_neg (by simp [hk]), rof1 hae, rof2 r.cost, rshort_is]
    simp only [Option.bind_some]
    by_cases h3 : m.ae = 3
    · have hb : linkB m.addr = true := by rcases hc with ⟨h, _⟩ | ⟨h, _⟩ | ⟨h, _⟩ | ⟨_, h⟩ <;> first | omega | exact h
      have hs : (shortF m.addr).1 = m.addr.drop 8 := by unfold shortF; rw [if_pos hb]
      rw [if_pos (by simp [h3]), hs, if_pos (maxB_of (by simp [be_length])), if_pos (maxB_of (by simp [be_length])), if_pos (maxB_of (by simp [be_length])), if_pos (maxB_of (by simp [be_length]; omega))]
      simp [fieldsF, hk, h3, be2_256 (show (0 : Int) ≤ 3 ∧ (3 : Int) < 256 by omega)]
      rfl
    · rw [if_neg (by simp [h3]), if_pos (maxB_of (by simp [be_length])), if_pos (maxB_of (by simp [be_length])), if_pos (maxB_of (by simp [be_length])), if_pos (maxB_of (by simp [be_length]; omega))]
      simp [fieldsF, hk, h3, be2_256 hae]
theorem fieldsF_len {m : Msg} (hl : m.addr.length ≤ 400) : (fieldsF m).length ≤ 406 := by
  unfold fieldsF; split
  · simp [be_length]
  · split
    · simp [be_length]
    · split
      · simp [be_length]
      · split <;> simp [be_length] <;> omega
theorem rput20_is {m : Msg} (g : GoodM m) : g_ref20_Put (m, ()) = some (((fieldPut m).1, (fieldPut m).2, ()), ()) := by
  rw [g_ref20_Put_eq, rright_is g, Option.bind_some]
  unfold fieldPut
  dsimp only
  by_cases h : fieldB m = true
  · have r := fieldR_iff.1 h
    have hs := rsput_is g.few.fewS (by have := g.few.subs; omega)
    rw [putS_r r.subs] at hs
    have hz := encS_small r.subs
    have hl := fieldsF_len (m := m) (by have := g.few.addr; omega)
    rw [if_neg (by simp [h]), if_pos h, hs, rfields_is r (by have := g.few.addr; omega)]
    simp only [Option.bind_some]
    rw [if_pos (maxB_of (by omega)), rtput_is]; rfl
  · rw [Bool.not_eq_true] at h
    rw [h, ifnf, iff_]
end Go.VP
