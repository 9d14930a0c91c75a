/- RIP's parts: zeros, entries, masks. -/
import Derived.Test.YthmafkkiefndnaaGreatQFQ0
import Derived.Test.YthmafkkiefndnaaGreatQFQ2
import Derived.Test.YthmafkkiefndnaaGreatQFQ7
import Derived.Test.YthmafkkiefndnaaGreatQFH
import Derived.Test.YthmafkkiefndnaaGreatQPBase
import Derived.Test.YthmafkkiefndnaaGreatQPCur
import Derived.Test.YthmafkkiefndnaaGreatQPOct
import Derived.Test.YthmafkkiefndnaaGreatQPTlv
import Derived.Test.YthmafkkiefndnaaGreatQPSub
import Derived.Test.YthmafkkiefndnaaGreatQPMsg
import Derived.Test.YthmafkkiefndnaaGreatQPBits
set_option linter.unusedVariables false
set_option linter.unusedSimpArgs false
set_option maxRecDepth 100000
namespace Go.VP
open Go Go.VI
def zeroB (s : Bs) : Bool := s.all (· == 0)
theorem zero_loop {n : Nat} {s : Bs} (hs : s.length ≤ 1000000000) : ∀ (d m i : Nat), i + d = s.length → d < m → L_octet_Zero_0 n m s i = some (((s.drop i).all (· == 0), ()), ()) := by
  intro d
  induction d with
  | zero =>
    intro m i hd hm
    obtain ⟨m, rfl⟩ : ∃ k, m = k + 1 := ⟨m - 1, by omega⟩
    rw [L_octet_Zero_0_eq, ifn (by omega), List.drop_eq_nil_of_le (by omega)]; rfl
  | succ d ih =>
    intro m i hd hm
    obtain ⟨m, rfl⟩ : ∃ k, m = k + 1 := ⟨m - 1, by omega⟩
    have ha : i < s.length := by omega
    have := ih m (i + 1) (by omega) (by omega)
    rw [show ((i + 1 : Nat) : Int) = (i : Int) + 1 by omega] at this
    rw [L_octet_Zero_0_eq, ifd (by omega), if_pos (by omega), Int.toNat_natCast, bind_at ha, w64 (by omega) (by omega), this, List.drop_eq_getElem_cons ha, List.all_cons]
    refine ne_step (fun h => ?_) (fun h => ?_)
    · have : (s[i] == 0) = false := by
        rw [beq_eq_false_iff_ne]; intro e; rw [e] at h; exact h rfl
      rw [this]; rfl
    · have : s[i] = 0 := u8_eq h
      rw [this]; simp
theorem zero_is {s : Bs} (hs : s.length ≤ 1000000000) : g_octet_Zero (s, ()) = some ((zeroB s, ()), ()) := by
  show h_octet_Zero fuel (s, ()) = _
  rw [h_octet_Zero_eq]
  exact zero_loop hs s.length fuel 0 (by omega) (fuel_ge (by omega))
abbrev z4 : Bs := [0, 0, 0, 0]
theorem zero4 {s : Bs} (h : s.length = 4) : zeroB s = true ↔ s = z4 := by
  match s, h with
  | [a, b, c, d], _ => simp [zeroB]
theorem zero8 {s t : Bs} (h : s.length = 4) (h' : t.length = 4) : zeroB (s ++ t) = true ↔ s = z4 ∧ t = z4 := by
  rw [← zero4 h, ← zero4 h']; simp [zeroB, List.all_append]
end Go.VP
