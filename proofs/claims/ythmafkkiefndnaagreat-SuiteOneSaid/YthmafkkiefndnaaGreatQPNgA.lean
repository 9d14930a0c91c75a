/- RIPng: entries, routes that may be. -/
import Derived.Test.YthmafkkiefndnaaGreatQFQ1
import Derived.Test.YthmafkkiefndnaaGreatQFH
import Derived.Test.YthmafkkiefndnaaGreatQFQ2
import Derived.Test.YthmafkkiefndnaaGreatQFQ5
import Derived.Test.YthmafkkiefndnaaGreatQFQ7
import Derived.Test.YthmafkkiefndnaaGreatQPBase
import Derived.Test.YthmafkkiefndnaaGreatQPCur
import Derived.Test.YthmafkkiefndnaaGreatQPOct
import Derived.Test.YthmafkkiefndnaaGreatQPTlv
import Derived.Test.YthmafkkiefndnaaGreatQPSub
import Derived.Test.YthmafkkiefndnaaGreatQPMsg
import Derived.Test.YthmafkkiefndnaaGreatQPAll
import Derived.Test.YthmafkkiefndnaaGreatQPAddr
import Derived.Test.YthmafkkiefndnaaGreatQPBits
import Derived.Test.YthmafkkiefndnaaGreatQPField
import Derived.Test.YthmafkkiefndnaaGreatQPRoute
import Derived.Test.YthmafkkiefndnaaGreatQPRipA
import Derived.Test.YthmafkkiefndnaaGreatQPCtxU
set_option linter.unusedVariables false
set_option linter.unusedSimpArgs false
set_option maxRecDepth 100000
namespace Go.VP
open Go Go.VI
def z16 : Bs := [0, 0, 0, 0, 0, 0, 0, 0, 0, 0, 0, 0, 0, 0, 0, 0]
theorem zeros16 : g_octet_Zeros (16, ()) = some ((z16, ()), ()) := by
  rw [g_octet_Zeros_eq, if_pos (by unfold roomI; decide)]; rfl
def preB (a : Bs) (n : Int) : Bool := decide (0 ≤ n ∧ n ≤ 128) && cleanB a n
theorem pright16_is {a : Bs} {n : Int} (h : a.length = 16) (hn : IntKind.has .i64 n) : g_prefix_Right (a, n, ()) = some ((preB a n, ()), ()) := by
  have h8 : IntKind.wrap .i64 (8 * (a.length : Int)) = 128 := by rw [h]; rfl
  rw [g_prefix_Right_eq, h8]
  unfold preB
  refine bq_step (fun q => by omega) (fun _ => ?_)
  refine bq_step (fun _ => ?_) (fun q => by omega)
  refine dq_step' (fun h0 => ?_) (fun h0 => ?_)
  · refine dq_step' (fun h1 => ?_) (fun h1 => ?_)
    · rw [clean_is (by omega) hn, Option.bind_some, decide_eq_true ⟨h0, h1⟩, Bool.true_and]
    · rw [decide_eq_false (fun q => h1 q.2), Bool.false_and]
  · rw [decide_eq_false (fun q => h0 q.1), Bool.false_and]
structure NgR (m : Msg) : Prop where
  kind : m.kind = 2
  bare : bareB m = true
  cmd : m.cmd = 1 ∨ m.cmd = 2
  tag : 0 ≤ m.tag ∧ m.tag < 65536
  metric : 1 ≤ m.metric ∧ m.metric ≤ 16
  len : m.prefix_.length = 16
  pre : preB m.prefix_ m.plen = true
  next : m.next = z16 ∨ linkB m.next = true
open Classical in
noncomputable def ngB (m : Msg) : Bool := decide (NgR m)
theorem ngR_iff {m : Msg} : ngB m = true ↔ NgR m := by simp [ngB]
theorem ngB_no {m : Msg} (h : ¬ NgR m) : ngB m = false := by simp [ngB, h]
theorem NgR.plen {m : Msg} (h : NgR m) : 0 ≤ m.plen ∧ m.plen ≤ 128 := by
  have := h.pre; unfold preB at this; simp at this; exact this.1
structure GoodG (m : Msg) : Prop where
  tag : IntKind.has .i64 m.tag
  plen : IntKind.has .i64 m.plen
  cmd : IntKind.has .i64 m.cmd
  list : m.list.length ≤ 1000000000
  subs : m.subs.length ≤ 1000000000
theorem link_or {m : Msg} {r : Option ((Bool × Unit) × Unit)} (h : r = some ((linkB m.next, ()), ())) (hk : NgR m ↔ (m.next = z16 ∨ linkB m.next = true)) : (if (m.next == z16) = true then (some ((true, ()), ()) : Option ((Bool × Unit) × Unit)) else r.bind fun r5 => some ((r5.1.1, ()), ())) = some ((ngB m, ()), ()) := by
  refine be_step (fun q => by rw [ngR_iff.2 (hk.2 (.inl q))]) (fun q => ?_)
  rw [h, Option.bind_some]
  cases hl : linkB m.next with
  | true => rw [ngR_iff.2 (hk.2 (.inr hl))]
  | false => rw [ngB_no (fun x => by rcases hk.1 x with e | e; exact q e; rw [hl] at e; cases e)]
theorem ngright_is {m : Msg} (g : GoodG m) : g_ripng_Right (m, ()) = some ((ngB m, ()), ()) := by
  rw [g_ripng_Right_eq]
  have no : ¬ NgR m → (some ((false, ()), ()) : Option ((Bool × Unit) × Unit)) = some ((ngB m, ()), ()) := fun h => by rw [ngB_no h]
  have tail : (m.kind = 2) → bareB m = true → (m.cmd = 1 ∨ m.cmd = 2) → ((g_octet_Fits (m.tag, 2, ())).bind fun r6 => (if (!r6.1.1) = true then some ((false, ()), ()) else (if (decide (m.metric < 1)) = true then some ((false, ()), ()) else (if (decide (16 < m.metric)) = true then some ((false, ()), ()) else (if ((m.prefix_.length : Int) != 16) = true then some ((false, ()), ()) else ((g_prefix_Right (m.prefix_, m.plen, ())).bind fun r7 => (if (!r7.1.1) = true then some ((false, ()), ()) else ((g_octet_Zeros (16, ())).bind fun r8 => (if (m.next == r8.1.1) = true then some ((true, ()), ()) else ((g_addr_Link (m.next, ())).bind fun r9 => some ((r9.1.1, ()), ())))))))))))= (some ((ngB m, ()), ()) : Option ((Bool × Unit) × Unit)) := by
    intro hk hb hc
    rw [show g_octet_Fits (m.tag, 2, ()) = some ((fitsB m.tag 2, ()), ()) from fits_is (k := 2) g.tag (by omega) (by omega), Option.bind_some]
    dsimp only
    cases hf : fitsB m.tag 2 with
    | false => rw [ifnf]; exact no (fun h => by rw [fitsB2.2 h.tag] at hf; cases hf)
    | true =>
      rw [ifnt]
      refine dq_step' (fun q => no (fun h => by have := h.metric; omega)) (fun h1 => ?_)
      refine dq_step' (fun q => no (fun h => by have := h.metric; omega)) (fun h2 => ?_)
      refine ne_step (fun q => no (fun h => by have := h.len; omega)) (fun h3 => ?_)
      rw [pright16_is (by omega) g.plen, Option.bind_some]
      dsimp only
      cases hp : preB m.prefix_ m.plen with
      | false => rw [ifnf]; exact no (fun h => by rw [h.pre] at hp; cases hp)
      | true =>
        rw [ifnt, zeros16, Option.bind_some]
        exact link_or (link_is _) ⟨fun h => h.next, fun h => ⟨hk, hb, hc, fitsB2.1 hf, by omega, by omega, hp, h⟩⟩
  refine ne_step (fun q => no (fun h => q h.kind)) (fun hk => ?_)
  rw [bare_is, Option.bind_some]
  dsimp only
  cases hb : bareB m with
  | false => rw [ifnf]; exact no (fun h => by rw [h.bare] at hb; cases hb)
  | true =>
    rw [ifnt]
    refine ne_step (fun q1 => ?_) (fun q1 => tail hk hb (.inl q1))
    exact ne_step (fun q2 => no (fun h => by have := h.cmd; omega)) (fun q2 => tail hk hb (.inr q2))
abbrev EntN := S_api_Entry
end Go.VP
