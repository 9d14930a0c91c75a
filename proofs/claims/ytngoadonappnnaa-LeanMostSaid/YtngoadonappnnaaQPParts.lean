/- The messages of TLVs: in parts, and where TLVs that say nothing stand between. -/
import Derived.Test.YtngoadonappnnaaQPBase
import Derived.Test.YtngoadonappnnaaQPCur
import Derived.Test.YtngoadonappnnaaQPOct
import Derived.Test.YtngoadonappnnaaQPTlv
import Derived.Test.YtngoadonappnnaaQPSub
import Derived.Test.YtngoadonappnnaaQPMsg
import Derived.Test.YtngoadonappnnaaQPAddr
import Derived.Test.YtngoadonappnnaaQPBits
import Derived.Test.YtngoadonappnnaaQPField
import Derived.Test.YtngoadonappnnaaQPFieldG
import Derived.Test.YtngoadonappnnaaQPRoute
import Derived.Test.YtngoadonappnnaaQPRouteG
import Derived.Test.YtngoadonappnnaaQPTake
import Derived.Test.YtngoadonappnnaaQPRouteB
import Derived.Test.YtngoadonappnnaaQPCtx
import Derived.Test.YtngoadonappnnaaQPCtxU
import Derived.Test.YtngoadonappnnaaQPCtxV
import Derived.Test.YtngoadonappnnaaQPCtxW
import Derived.Test.YtngoadonappnnaaQPCtxX
import Derived.Test.YtngoadonappnnaaQPIntake
import Derived.Test.YtngoadonappnnaaQPFold
set_option linter.unusedVariables false
set_option linter.unusedSimpArgs false
set_option maxRecDepth 100000
namespace Go.VP
open Go Go.VI
theorem foldR_app : ∀ (a b : List Tlv) (c : Ctx) (acc : List Msg), (foldR c a acc).2.2.2 = 0 → foldR c (a ++ b) acc = foldR (foldR c a acc).2.1 b (foldR c a acc).1
  | [], b, c, acc, _ => rfl
  | t :: r, b, c, acc, h => by
    rw [List.cons_append, foldR, foldR]
    rw [foldR] at h
    by_cases he : (oneR c t.type_ t.data).2.2 ≠ 0
    · rw [if_pos he] at h; exact absurd h he
    · rw [if_neg he] at h ⊢
      rw [if_neg he]
      exact foldR_app r b _ _ h
def Except.app (x : Except Int (List Tlv)) (a : List Tlv) : Except Int (List Tlv) := x.map (a ++ ·)
theorem spl_append : ∀ (a : Bs) (p : Int) (la : List Tlv), spl p a = .ok la → ∀ b, spl p (a ++ b) = (spl (p + a.length) b).map (la ++ ·) := by
  intro a
  induction h : a.length using Nat.strongRecOn generalizing a with
  | ind n ih =>
    intro p la hs b
    subst h
    match a, hs with
    | [], hs =>
      rw [spl_nil] at hs
      cases hs
      rw [List.nil_append, show p + ((([] : Bs).length : Nat) : Int) = p by simp]
      cases spl p b <;> rfl
    | t :: r, hs =>
      by_cases ht : t = 0
      · subst ht
        rw [spl_zero] at hs
        cases hr : spl (p + 1) r with
        | error q => rw [hr] at hs; cases hs
        | ok lr =>
          rw [hr] at hs
          cases hs
          have := ih r.length (by simp) r rfl (p + 1) lr hr b
          rw [List.cons_append, spl_zero, this, show p + 1 + (r.length : Int) = p + ((((0 : UInt8) :: r).length : Nat) : Int) by simp; omega]
          cases spl (p + ((((0 : UInt8) :: r).length : Nat) : Int)) b <;> rfl
      · match r, hs with
        | [], hs => rw [spl_one ht] at hs; cases hs
        | n :: d, hs =>
          by_cases hn : d.length < n.toNat
          · rw [spl_bad ht hn] at hs; cases hs
          · rw [spl_all ht (by omega)] at hs
            cases hr : spl (p + 2 + n.toNat) (d.drop n.toNat) with
            | error q => rw [hr] at hs; cases hs
            | ok lr =>
              rw [hr] at hs
              cases hs
              have := ih (d.drop n.toNat).length (by simp; omega) (d.drop n.toNat) rfl _ lr hr b
              rw [List.cons_append, List.cons_append, spl_all ht (by rw [List.length_append]; omega), List.drop_append_of_le_length (by omega), this, List.take_append_of_le_length (by omega), show p + 2 + (n.toNat : Int) + ((d.drop n.toNat).length : Int) = p + (((t :: n :: d).length : Nat) : Int) by simp; omega]
              cases spl (p + (((t :: n :: d).length : Nat) : Int)) b <;> rfl
end Go.VP
