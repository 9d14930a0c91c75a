/- AODV: which messages may be. -/
import Derived.Test.YthmafkkiefndnaaGreatQFQ5
import Derived.Test.YthmafkkiefndnaaGreatQFQ7
import Derived.Test.YthmafkkiefndnaaGreatQPBase
import Derived.Test.YthmafkkiefndnaaGreatQPCur
import Derived.Test.YthmafkkiefndnaaGreatQPOct
import Derived.Test.YthmafkkiefndnaaGreatQPTlv
import Derived.Test.YthmafkkiefndnaaGreatQPSub
import Derived.Test.YthmafkkiefndnaaGreatQPMsg
import Derived.Test.YthmafkkiefndnaaGreatQPAll
import Derived.Test.YthmafkkiefndnaaGreatQPAddr
import Derived.Test.YthmafkkiefndnaaGreatQPBits
import Derived.Test.YthmafkkiefndnaaGreatQPField
import Derived.Test.YthmafkkiefndnaaGreatQPRoute
import Derived.Test.YthmafkkiefndnaaGreatQPRipA
import Derived.Test.YthmafkkiefndnaaGreatQPRipB
import Derived.Test.YthmafkkiefndnaaGreatQPRipC
import Derived.Test.YthmafkkiefndnaaGreatQFQ0
import Derived.Test.YthmafkkiefndnaaGreatQFQ2
import Derived.Test.YthmafkkiefndnaaGreatQFH
import Derived.Test.YthmafkkiefndnaaGreatQPRipE
import Derived.Test.YthmafkkiefndnaaGreatQPCtxU
import Derived.Test.YthmafkkiefndnaaGreatQPExt
import Derived.Test.YthmafkkiefndnaaGreatQPNgA
set_option linter.unusedVariables false
set_option linter.unusedSimpArgs false
set_option maxRecDepth 100000
namespace Go.VP
open Go Go.VI
def W32 (n : Int) : Prop := 0 ≤ n ∧ n < 4294967296
def W8 (n : Int) : Prop := 0 ≤ n ∧ n < 256
theorem fitsB4 {n : Int} : fitsB n 4 = true ↔ W32 n := by simp [fitsB, W32]
theorem fitsB1 {n : Int} : fitsB n 1 = true ↔ W8 n := by simp [fitsB, W8]
theorem pf4 {n : Int} (h : IntKind.has .i64 n) : g_octet_Fits (n, 4, ()) = some ((fitsB n 4, ()), ()) := fits_is (k := 4) h (by omega) (by omega)
theorem pf1 {n : Int} (h : IntKind.has .i64 n) : g_octet_Fits (n, 1, ()) = some ((fitsB n 1, ()), ()) := fits_is (k := 1) h (by omega) (by omega)
structure RqR (m : Msg) : Prop where
  kind : m.kind = 3
  bare : bareB m = true
  flags : 0 ≤ m.flags ∧ m.flags ≤ 31
  addr : m.addr.length = 4
  orig : m.orig.length = 4
  nonce : W32 m.nonce
  seq : W32 m.seq
  seq2 : W32 m.seq2
  hops : W8 m.hops
  subs : extB m.subs = true
structure RpR (m : Msg) : Prop where
  kind : m.kind = 4
  bare : bareB m = true
  flags : 0 ≤ m.flags ∧ m.flags ≤ 3
  plen : 0 ≤ m.plen ∧ m.plen ≤ 31
  addr : m.addr.length = 4
  orig : m.orig.length = 4
  seq : W32 m.seq
  life : W32 m.interval
  hops : W8 m.hops
  subs : extB m.subs = true
structure AkR (m : Msg) : Prop where
  kind : m.kind = 6
  bare : bareB m = true
  subs : extB m.subs = true
def destB (d : Dest) : Bool := decide (d.addr.length = 4) && fitsB d.seq 4
structure ReR (m : Msg) : Prop where
  kind : m.kind = 5
  bare : bareB m = true
  flags : m.flags = 0 ∨ m.flags = 1
  len : 1 ≤ m.list.length ∧ m.list.length ≤ 255
  list : m.list.all destB = true
  subs : extB m.subs = true
open Classical in
noncomputable def rqB (m : Msg) : Bool := decide (RqR m)
open Classical in
noncomputable def rpB (m : Msg) : Bool := decide (RpR m ∨ AkR m)
open Classical in
noncomputable def reB (m : Msg) : Bool := decide (ReR m)
theorem rqB_iff {m : Msg} : rqB m = true ↔ RqR m := by simp [rqB]
theorem rpB_iff {m : Msg} : rpB m = true ↔ (RpR m ∨ AkR m) := by simp [rpB]
theorem reB_iff {m : Msg} : reB m = true ↔ ReR m := by simp [reB]
theorem b_eq {a b : Bool} (h : a = true ↔ b = true) : a = b := by cases a <;> cases b <;> simp_all
theorem b_no {b : Bool} (h : ¬ b = true) : b = false := by cases b <;> simp_all
structure GoodV (m : Msg) : Prop where
  nonce : IntKind.has .i64 m.nonce
  seq : IntKind.has .i64 m.seq
  seq2 : IntKind.has .i64 m.seq2
  hops : IntKind.has .i64 m.hops
  life : IntKind.has .i64 m.interval
  list : m.list.length ≤ 1000000
  ds : ∀ d ∈ m.list, IntKind.has .i64 d.seq
  subs : FewS m.subs
  subs1 : m.subs.length ≤ 1000000
theorem rq_loop {n k : Nat} {m : Msg} (g : GoodV m) : L_rreq_Right_0 n (k + 4) m [m.nonce, m.seq, m.seq2] 3 0 = some ((fitsB m.nonce 4 && (fitsB m.seq 4 && (fitsB m.seq2 4 && (fitsB m.hops 1 && extB m.subs))), ()), ()) := by
  rw [L_rreq_Right_0_eq, ifd (by decide), if_pos (by decide), show ([m.nonce, m.seq, m.seq2])[(0 : Int).toNat]? = some m.nonce from rfl, Option.bind_some, pf4 g.nonce, Option.bind_some]
  dsimp only
  cases fitsB m.nonce 4 with
  | false => rfl
  | true =>
    rw [ifnt, show IntKind.wrap .i64 ((0 : Int) + 1) = 1 from rfl, L_rreq_Right_0_eq, ifd (by decide), if_pos (by decide), show ([m.nonce, m.seq, m.seq2])[(1 : Int).toNat]? = some m.seq from rfl, Option.bind_some, pf4 g.seq, Option.bind_some]
    dsimp only
    cases fitsB m.seq 4 with
    | false => rfl
    | true =>
      rw [ifnt, show IntKind.wrap .i64 ((1 : Int) + 1) = 2 from rfl, L_rreq_Right_0_eq, ifd (by decide), if_pos (by decide), show ([m.nonce, m.seq, m.seq2])[(2 : Int).toNat]? = some m.seq2 from rfl, Option.bind_some, pf4 g.seq2, Option.bind_some]
      dsimp only
      cases fitsB m.seq2 4 with
      | false => rfl
      | true =>
        rw [ifnt, show IntKind.wrap .i64 ((2 : Int) + 1) = 3 from rfl, L_rreq_Right_0_eq, ifn (by decide), pf1 g.hops, Option.bind_some]
        dsimp only
        cases fitsB m.hops 1 with
        | false => rfl
        | true => rw [ift, eright_is g.subs.1]; rfl
theorem rqB_all {m : Msg} (hk : m.kind = 3) (hb : bareB m = true) (h0 : 0 ≤ m.flags) (h1 : m.flags ≤ 31) (ha : m.addr.length = 4) (ho : m.orig.length = 4) : rqB m = (fitsB m.nonce 4 && (fitsB m.seq 4 && (fitsB m.seq2 4 && (fitsB m.hops 1 && extB m.subs)))) := by
  apply b_eq
  simp only [Bool.and_eq_true, rqB_iff, fitsB4, fitsB1]
  exact ⟨fun h => ⟨h.nonce, h.seq, h.seq2, h.hops, h.subs⟩, fun ⟨a, b, c, d, e⟩ => ⟨hk, hb, ⟨h0, h1⟩, ha, ho, a, b, c, d, e⟩⟩
theorem rqright_is {m : Msg} (g : GoodV m) : g_rreq_Right (m, ()) = some ((rqB m, ()), ()) := by
  show h_rreq_Right fuel _ = _
  have no : ¬ RqR m → (some ((false, ()), ()) : Option ((Bool × Unit) × Unit)) = some ((rqB m, ()), ()) := fun h => by rw [b_no (fun q => h (rqB_iff.1 q))]
  rw [h_rreq_Right_eq]
  refine ne_step (fun q => no (fun h => q h.kind)) (fun hk => ?_)
  rw [bare_is, Option.bind_some]
  refine nb_step (fun q => no (fun h => by have := h.bare; dsimp only at q; rw [q] at this; cases this)) (fun hb => ?_)
  refine dq_step (fun q => no (fun h => by have := h.flags; omega)) (fun h0 => ?_)
  refine dq_step (fun q => no (fun h => by have := h.flags; omega)) (fun h1 => ?_)
  refine ne_step (fun q => no (fun h => by have := h.addr; omega)) (fun ha => ?_)
  refine ne_step (fun q => no (fun h => by have := h.orig; omega)) (fun ho => ?_)
  have hf := fuel_ge (n := 4) (by omega)
  have := rq_loop (n := fuel) (k := fuel - 4) g
  rw [show fuel - 4 + 4 = fuel by omega] at this
  rw [rqB_all hk hb (by omega) (by omega) (by omega) (by omega)]
  exact this
theorem rpB_all {m : Msg} (hk : m.kind = 4) (hb : bareB m = true) (hs : extB m.subs = true) (h0 : 0 ≤ m.flags) (h1 : m.flags ≤ 3) (h2 : 0 ≤ m.plen) (h3 : m.plen ≤ 31) (c1 : fitsB m.hops 1 = true) (c2 : fitsB m.seq 4 = true) (c3 : fitsB m.interval 4 = true) (ha : m.addr.length = 4) : rpB m = ((m.orig.length : Int) == 4) := by
  apply b_eq
  simp only [rpB_iff, beq_iff_eq]
  constructor
  · rintro (h | h)
    · have := h.orig; omega
    · have := h.kind; omega
  · intro ho
    exact .inl ⟨hk, hb, ⟨h0, h1⟩, ⟨h2, h3⟩, ha, by omega, fitsB4.1 c2, fitsB4.1 c3, fitsB1.1 c1, hs⟩
theorem rpright_is {m : Msg} (g : GoodV m) : g_rrep_Right (m, ()) = some ((rpB m, ()), ()) := by
  have no : ¬ RpR m → ¬ AkR m → (some ((false, ()), ()) : Option ((Bool × Unit) × Unit)) = some ((rpB m, ()), ()) := fun h h2 => by rw [b_no (fun q => (rpB_iff.1 q).elim h h2)]
  rw [g_rrep_Right_eq, bare_is, Option.bind_some]
  dsimp only
  cases hb : bareB m with
  | false => exact no (fun h => by have := h.bare; rw [hb] at this; cases this) (fun h => by have := h.bare; rw [hb] at this; cases this)
  | true =>
    rw [ifnt, eright_is g.subs.1, Option.bind_some]
    dsimp only
    cases hs : extB m.subs with
    | false => exact no (fun h => by have := h.subs; rw [hs] at this; cases this) (fun h => by have := h.subs; rw [hs] at this; cases this)
    | true =>
      rw [ifnt]
      refine bq_step (fun hk => by rw [rpB_iff.2 (.inr ⟨hk, hb, hs⟩)]) (fun hk6 => ?_)
      have no' : ¬ RpR m → (some ((false, ()), ()) : Option ((Bool × Unit) × Unit)) = some ((rpB m, ()), ()) := fun h => no h (fun q => hk6 q.kind)
      refine bq_step (fun hk => ?_) (fun q => no' (fun h => q h.kind))
      refine dq_step' (fun h0 => ?_) (fun q => no' (fun h => by have := h.flags; omega))
      refine dq_step' (fun h1 => ?_) (fun q => no' (fun h => by have := h.flags; omega))
      refine dq_step' (fun h2 => ?_) (fun q => no' (fun h => by have := h.plen; omega))
      refine dq_step' (fun h3 => ?_) (fun q => no' (fun h => by have := h.plen; omega))
      rw [pf1 g.hops, Option.bind_some, pf4 g.seq, Option.bind_some, pf4 g.life, Option.bind_some]
      dsimp only
      cases c1 : fitsB m.hops 1 with
      | false => exact no' (fun h => by have := fitsB1.2 h.hops; rw [c1] at this; cases this)
      | true => cases c2 : fitsB m.seq 4 with
        | false => exact no' (fun h => by have := fitsB4.2 h.seq; rw [c2] at this; cases this)
        | true => cases c3 : fitsB m.interval 4 with
          | false => exact no' (fun h => by have := fitsB4.2 h.life; rw [c3] at this; cases this)
          | true =>
            rw [ift, ift, ift]
            refine bq_step (fun ha => ?_) (fun q => no' (fun h => by have := h.addr; omega))
            rw [rpB_all hk hb hs h0 (by omega) h2 (by omega) c1 c2 c3 (by omega)]
end Go.VP
