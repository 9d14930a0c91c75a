/- Fields' messages: whether one may be, its bytes, that of bytes. -/
import Derived.Test.YthmafkkiefndnaaGreatQFH
import Derived.Test.YthmafkkiefndnaaGreatQFQ5
import Derived.Test.YthmafkkiefndnaaGreatQFQ6
import Derived.Test.YthmafkkiefndnaaGreatQFQ7
import Derived.Test.YthmafkkiefndnaaGreatQPBase
import Derived.Test.YthmafkkiefndnaaGreatQPCur
import Derived.Test.YthmafkkiefndnaaGreatQPOct
import Derived.Test.YthmafkkiefndnaaGreatQPTlv
import Derived.Test.YthmafkkiefndnaaGreatQPSub
import Derived.Test.YthmafkkiefndnaaGreatQPMsg
import Derived.Test.YthmafkkiefndnaaGreatQPAddr
set_option linter.unusedVariables false
set_option linter.unusedSimpArgs false
set_option maxRecDepth 100000
namespace Go.VP
open Go Go.VI
def addrB (ae : Int) (a : Bs) : Bool := if ae = 0 then a == [] else if ae = 1 then decide (a.length = 4) else if ae = 2 then decide (a.length = 16) else if ae = 3 then linkB a else false
theorem addr_is (ae : Int) (a : Bs) : g_field_address (ae, a, ()) = some ((addrB ae a, ()), ()) := by
  rw [g_field_address_eq, fam_is, link_is]
  unfold addrB
  refine bq_step (fun h => ?_) (fun h => ?_)
  · rw [if_pos h]
  rw [if_neg h]
  refine bq_step (fun h => ?_) (fun h => ?_)
  · rw [if_pos h, Option.bind_some]
    unfold famF; split
    · simp [*]
    · split <;> simp [*]
  rw [if_neg h]
  refine bq_step (fun h => ?_) (fun h => ?_)
  · rw [if_pos h, Option.bind_some]
    unfold famF; split
    · simp [*]
    · split <;> simp [*]
  rw [if_neg h]
  refine bq_step (fun h => ?_) (fun h => ?_)
  · rw [if_pos h, Option.bind_some]
  rw [if_neg h]
def kindF (m : Msg) : Bool := if m.kind = 7 then true else if m.kind = 8 then true else if m.kind = 9 then (m.flags == 0 || m.flags == 1) else if m.kind = 10 then addrB m.ae m.addr else false
noncomputable def fieldB (m : Msg) : Bool := fitsB m.nonce 2 && (fitsB m.interval 2 && (fitsB m.seq 2 && (fitsB m.cost 2 && (bareB m && (rightB m.subs && kindF m)))))
structure GoodM (m : Msg) : Prop where
  few : Lite m
  nonce : IntKind.has .i64 m.nonce
  interval : IntKind.has .i64 m.interval
  seq : IntKind.has .i64 m.seq
  cost : IntKind.has .i64 m.cost
  kind : IntKind.has .i64 m.kind
  flags : IntKind.has .i64 m.flags
  ae : IntKind.has .i64 m.ae
  plen : IntKind.has .i64 m.plen
  hops : IntKind.has .i64 m.hops
theorem kindF_is {m : Msg} {c : Option ((Bool × Unit) × Unit)} (hc : c = some ((addrB m.ae m.addr, ()), ())) :
  (if (m.kind == 7) = true then (if (m.kind == 7) = true then some ((true, ()), ()) else (if (m.kind == 9) = true then (if (m.flags == 0) = true then some ((true, ()), ()) else some (((m.flags == 1), ()), ())) else (if (m.kind == 10) = true then (c.bind fun r5 => some ((r5.1.1, ()), ())) else some ((false, ()), ())))) else (if (m.kind == 8) = true then some ((true, ()), ()) else (if (m.kind == 9) = true then (if (m.flags == 0) = true then some ((true, ()), ()) else some (((m.flags == 1), ()), ())) else (if (m.kind == 10) = true then (c.bind fun r6 => some ((r6.1.1, ()), ())) else some ((false, ()), ()))))) = some ((kindF m, ()), ()) := by
  subst hc
  unfold kindF
  refine bq_step (fun h => ?_) (fun h => ?_)
  · rw [if_pos h, if_pos (by simp [h])]
  rw [if_neg h]
  refine bq_step (fun h => ?_) (fun h => ?_)
  · rw [if_pos h]
  rw [if_neg h]
  refine bq_step (fun h => ?_) (fun h => ?_)
  · rw [if_pos h]
    refine bq_step (fun h2 => ?_) (fun h2 => ?_)
    · simp [h2]
    · have : (m.flags == 0) = false := by simpa using h2
      rw [this, Bool.false_or]
  rw [if_neg h]
  refine bq_step (fun h => ?_) (fun h => ?_)
  · rw [if_pos h, Option.bind_some]
  rw [if_neg h]
theorem right_is {m : Msg} (g : GoodM m) : g_field_Right (m, ()) = some ((fieldB m, ()), ()) := by
  have f2 : ∀ {n : Int}, IntKind.has .i64 n → g_octet_Fits (n, 2, ()) = some ((fitsB n 2, ()), ()) := fun h => fits_is (k := 2) h (by omega) (by omega)
  obtain ⟨c, hc⟩ := fuel_pos
  show h_field_Right fuel _ = _
  rw [h_field_Right_eq, show ([m.nonce, m.interval, m.seq, m.cost] : List Int).length = 4 from rfl]
  have e0 : fuel = (c + 999999999995) + 5 := by omega
  have st : ∀ (k : Nat) (i : Nat) (x : Int), [m.nonce, m.interval, m.seq, m.cost][i]? = some x → i < 4 → IntKind.has .i64 x → L_field_Right_0 fuel (k + 1) m [m.nonce, m.interval, m.seq, m.cost] ((4 : Nat) : Int) i = (if (!fitsB x 2) = true then some ((false, ()), ()) else L_field_Right_0 fuel k m [m.nonce, m.interval, m.seq, m.cost] ((4 : Nat) : Int) ((i + 1 : Nat) : Int)) := by
    intro k i x hx hi hh
    rw [L_field_Right_0_eq, ifd (by omega), if_pos (by omega), Int.toNat_natCast, hx, Option.bind_some, f2 hh, Option.bind_some, w64 (by omega) (by omega)]
    rfl
  have last : ∀ k, L_field_Right_0 fuel (k + 1) m [m.nonce, m.interval, m.seq, m.cost] ((4 : Nat) : Int) ((4 : Nat) : Int) = some ((bareB m && (rightB m.subs && kindF m), ()), ()) := by
    intro k
    rw [L_field_Right_0_eq, ifn (by omega), bare_is, Option.bind_some, sright_is g.few.fewS, Option.bind_some]
    dsimp only
    rw [kindF_is (addr_is _ _)]
    cases bareB m
    · rfl
    · cases rightB m.subs <;> rfl
  have := st (c + 999999999999) 0 m.nonce rfl (by omega) g.nonce
  rw [show c + 999999999999 + 1 = fuel by omega] at this
  rw [show (0 : Int) = ((0 : Nat) : Int) from rfl, this]
  have := st (c + 999999999998) 1 m.interval rfl (by omega) g.interval
  rw [this]
  have := st (c + 999999999997) 2 m.seq rfl (by omega) g.seq
  rw [this]
  have := st (c + 999999999996) 3 m.cost rfl (by omega) g.cost
  rw [this]
  have := last (c + 999999999995)
  rw [this]
  unfold fieldB
  cases fitsB m.nonce 2
  · rfl
  · cases fitsB m.interval 2
    · rfl
    · cases fitsB m.seq 2
      · rfl
      · cases fitsB m.cost 2 <;> rfl
def fieldsF (m : Msg) : Bs :=
  if m.kind = 7 then be 2 0 ++ (be 2 m.nonce ++ be 2 m.interval)
  else if m.kind = 8 then be 2 m.nonce
  else if m.kind = 9 then be 2 (32768 * m.flags) ++ (be 2 m.seq ++ be 2 m.interval)
  else be 2 (256 * m.ae) ++ (be 2 m.cost ++ (be 2 m.interval ++ (if m.ae = 3 then m.addr.drop 8 else m.addr)))
structure FieldR (m : Msg) : Prop where
  nonce : 0 ≤ m.nonce ∧ m.nonce < 65536
  interval : 0 ≤ m.interval ∧ m.interval < 65536
  seq : 0 ≤ m.seq ∧ m.seq < 65536
  cost : 0 ≤ m.cost ∧ m.cost < 65536
  bare : bareB m = true
  subs : rightB m.subs = true
  kind : kindF m = true
theorem fitsB2 {n : Int} : fitsB n 2 = true ↔ 0 ≤ n ∧ n < 65536 := by simp [fitsB]
theorem fieldR_iff {m : Msg} : fieldB m = true ↔ FieldR m := by
  unfold fieldB
  simp only [Bool.and_eq_true, fitsB2]
  exact ⟨fun ⟨a, b, c, d, e, f, g⟩ => ⟨a, b, c, d, e, f, g⟩, fun h => ⟨h.1, h.2, h.3, h.4, h.5, h.6, h.7⟩⟩
theorem FieldR.kinds {m : Msg} (h : FieldR m) : m.kind = 7 ∨ m.kind = 8 ∨ (m.kind = 9 ∧ (m.flags = 0 ∨ m.flags = 1)) ∨ (m.kind = 10 ∧ addrB m.ae m.addr = true) := by
  have := h.kind
  unfold kindF at this
  split at this
  · omega
  · split at this
    · omega
    · split at this
      · simp at this; exact .inr (.inr (.inl ⟨by assumption, this⟩))
      · split at this
        · exact .inr (.inr (.inr ⟨by assumption, this⟩))
        · cases this
theorem addrB_cases {ae : Int} {a : Bs} (h : addrB ae a = true) : (ae = 0 ∧ a = []) ∨ (ae = 1 ∧ a.length = 4) ∨ (ae = 2 ∧ a.length = 16) ∨ (ae = 3 ∧ linkB a = true) := by
  unfold addrB at h
  split at h
  · simp at h; exact .inl ⟨by assumption, h⟩
  · split at h
    · simp at h; exact .inr (.inl ⟨by assumption, h⟩)
    · split at h
      · simp at h; exact .inr (.inr (.inl ⟨by assumption, h⟩))
      · split at h
        · exact .inr (.inr (.inr ⟨by assumption, h⟩))
        · cases h
end Go.VP
