/- AODV: the bytes of messages. -/
import Derived.Test.YthmafkkiefndnaaGreatQFH
import Derived.Test.YthmafkkiefndnaaGreatQFQ5
import Derived.Test.YthmafkkiefndnaaGreatQFQ7
import Derived.Test.YthmafkkiefndnaaGreatQPBase
import Derived.Test.YthmafkkiefndnaaGreatQPCur
import Derived.Test.YthmafkkiefndnaaGreatQPOct
import Derived.Test.YthmafkkiefndnaaGreatQPTlv
import Derived.Test.YthmafkkiefndnaaGreatQPSub
import Derived.Test.YthmafkkiefndnaaGreatQPMsg
import Derived.Test.YthmafkkiefndnaaGreatQPAll
import Derived.Test.YthmafkkiefndnaaGreatQPAddr
import Derived.Test.YthmafkkiefndnaaGreatQPBits
import Derived.Test.YthmafkkiefndnaaGreatQPField
import Derived.Test.YthmafkkiefndnaaGreatQPRoute
import Derived.Test.YthmafkkiefndnaaGreatQPRipA
import Derived.Test.YthmafkkiefndnaaGreatQPRipB
import Derived.Test.YthmafkkiefndnaaGreatQPRipC
import Derived.Test.YthmafkkiefndnaaGreatQFQ0
import Derived.Test.YthmafkkiefndnaaGreatQFQ2
import Derived.Test.YthmafkkiefndnaaGreatQPRipE
import Derived.Test.YthmafkkiefndnaaGreatQPCtxU
import Derived.Test.YthmafkkiefndnaaGreatQPExt
import Derived.Test.YthmafkkiefndnaaGreatQPNgA
import Derived.Test.YthmafkkiefndnaaGreatQPAodvA
set_option linter.unusedVariables false
set_option linter.unusedSimpArgs false
set_option maxRecDepth 100000
namespace Go.VP
open Go Go.VI
theorem re_loop {n : Nat} {m : Msg} (g : GoodV m) : ∀ (d k i : Nat), i + d = m.list.length → d < k → L_rerr_Right_0 n k m i = some (((m.list.drop i).all destB && extB m.subs, ()), ()) := by
  have gl := g.list
  intro d
  induction d with
  | zero =>
    intro k i hd hk
    obtain ⟨k, rfl⟩ : ∃ j, k = j + 1 := ⟨k - 1, by omega⟩
    rw [L_rerr_Right_0_eq, ifn (by omega), List.drop_eq_nil_of_le (by omega), eright_is g.subs.1]; rfl
  | succ d ih =>
    intro k i hd hk
    obtain ⟨k, rfl⟩ : ∃ j, k = j + 1 := ⟨k - 1, by omega⟩
    have hi : i < m.list.length := by omega
    have := ih k (i + 1) (by omega) (by omega)
    rw [show ((i + 1 : Nat) : Int) = (i : Int) + 1 by omega] at this
    rw [L_rerr_Right_0_eq, ifd (by omega), if_pos (by omega), Int.toNat_natCast, bind_at hi, pf4 (g.ds _ (List.getElem_mem hi)), Option.bind_some, w64 (by omega) (by omega), this, List.drop_eq_getElem_cons hi, List.all_cons]
    unfold destB
    refine ne_step (fun q => ?_) (fun q => ?_)
    · rw [decide_eq_false (by omega)]; rfl
    · rw [decide_eq_true (by omega)]
      dsimp only
      cases fitsB m.list[i].seq 4 <;> rfl
theorem reB_all {m : Msg} (hk : m.kind = 5) (hb : bareB m = true) (hf : m.flags = 0 ∨ m.flags = 1) (hl : 1 ≤ m.list.length ∧ m.list.length ≤ 255) : reB m = (m.list.all destB && extB m.subs) := by
  apply b_eq
  simp only [Bool.and_eq_true, reB_iff]
  exact ⟨fun h => ⟨h.list, h.subs⟩, fun ⟨a, b⟩ => ⟨hk, hb, hf, hl, a, b⟩⟩
theorem errright_is {m : Msg} (g : GoodV m) : g_rerr_Right (m, ()) = some ((reB m, ()), ()) := by
  show h_rerr_Right fuel _ = _
  have no : ¬ ReR m → (some ((false, ()), ()) : Option ((Bool × Unit) × Unit)) = some ((reB m, ()), ()) := fun h => by rw [b_no (fun q => h (reB_iff.1 q))]
  rw [h_rerr_Right_eq]
  refine ne_step (fun q => no (fun h => q h.kind)) (fun hk => ?_)
  rw [bare_is, Option.bind_some]
  refine nb_step (fun q => no (fun h => by have := h.bare; dsimp only at q; rw [q] at this; cases this)) (fun hb => ?_)
  have tail : (m.flags = 0 ∨ m.flags = 1) → (if ((m.list.length : Int) == 0) = true then some ((false, ()), ()) else (if (decide (255 < (m.list.length : Int))) = true then some ((false, ()), ()) else (L_rerr_Right_0 fuel fuel m 0))) = some ((reB m, ()), ()) := by
    intro hf
    refine bq_step (fun q => no (fun h => by have := h.len; omega)) (fun h0 => ?_)
    refine dq_step (fun q => no (fun h => by have := h.len; omega)) (fun h1 => ?_)
    rw [reB_all hk hb hf (by omega)]
    have := re_loop (n := fuel) g m.list.length fuel 0 (by omega) (fuel_ge (by omega))
    rw [List.drop_zero] at this
    exact this
  refine ne_step (fun q => ?_) (fun q => tail (.inl q))
  exact ne_step (fun q2 => no (fun h => by have := h.flags; omega)) (fun q2 => tail (.inr q2))
theorem W32.has {n : Int} (h : W32 n) : IntKind.has .i64 n := has64.2 ⟨by have := h.1; omega, by have := h.2; omega⟩
end Go.VP
