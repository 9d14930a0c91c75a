/- Bytes that are a datagram are that of their routes: for all arguments. -/
import Derived.Test.YtnjhhopdiopbfaaFQ4
import Derived.Test.YtnjhhopdiopbfaaPBase
import Derived.Test.YtnjhhopdiopbfaaPCur
import Derived.Test.YtnjhhopdiopbfaaPOct
import Derived.Test.YtnjhhopdiopbfaaPTlv
import Derived.Test.YtnjhhopdiopbfaaPSub
import Derived.Test.YtnjhhopdiopbfaaPMsg
import Derived.Test.YtnjhhopdiopbfaaPBits
import Derived.Test.YtnjhhopdiopbfaaPRipA
import Derived.Test.YtnjhhopdiopbfaaPRipB
import Derived.Test.YtnjhhopdiopbfaaPRipC
import Derived.Test.YtnjhhopdiopbfaaPRipD
import Derived.Test.YtnjhhopdiopbfaaPRipE
import Derived.Test.YtnjhhopdiopbfaaPRipF
import Derived.Test.YtnjhhopdiopbfaaPRipG
import Derived.Test.YtnjhhopdiopbfaaPRipH
import Derived.Test.YtnjhhopdiopbfaaFGood
set_option linter.unusedVariables false
set_option linter.unusedSimpArgs false
set_option maxRecDepth 100000
namespace Go.VP
open Go Go.VI
theorem rm_parse {b : Bs} (hb : b.length ≤ 100000) : ∀ m ∈ (parseR b).1, okR m → RM m := fun m hm ho => by
  have hs := parseR_all (b := b) (P := fun m => m.list.length ≤ 1000000000 ∧ m.subs.length ≤ 1000000000) (fun c v s e => by simp [routeM]) m hm
  obtain ⟨_, _, _, _, _, _, _, h⟩ := ho
  exact ⟨has64.2 (by omega), has64.2 (by omega), hs.1, hs.2⟩
theorem ripBytes_pure' (x0 : List UInt8) : g_law10_RipBytes (x0, ()) = some ((true, ()), ()) := by
  rw [g_law10_RipBytes_eq]
  refine dq_step (fun h => ?_) (fun h => ?_)
  · rw [awake10]; rfl
  · rw [parse_is (by omega), Option.bind_some]
    refine ne_step (fun he => ?_) (fun he => ?_)
    · obtain ⟨e1, e2, e3⟩ := parseR_err he
      rw [awake10, Option.bind_some]
      dsimp only
      rw [ift, if_pos (by rw [e1]; simp), ifd e2, decide_eq_true e3]
    · obtain ⟨r, r1, r2, r3, r4, r5⟩ := parse_good he
      have hrm := rm_parse (b := x0) (by omega)
      rw [r1] at hrm ⊢
      dsimp only at hrm ⊢
      have rm : ∀ m ∈ r, RM m := fun m hm => hrm m hm (r4 m hm)
      rw [enc_is rm (by omega), Option.bind_some, awake10, Option.bind_some, r5]
      dsimp only
      rw [ift, if_pos (by decide), if_pos (by simp), ifd (by omega), ifd (by omega), bind_at (show 0 < r.length by omega), rripRight_is (rm _ (List.getElem_mem _)), Option.bind_some, rightR_true.2 (r4 _ (List.getElem_mem _))]
end Go.VP
namespace Go.VP
open Go Go.VI
theorem ripBytes_pure (x0 : List UInt8) (g0 : Good_string x0) : g_law10_RipBytes (x0, ()) = some ((true, ()), ()) := Go.VP.ripBytes_pure' x0
end Go.VP
