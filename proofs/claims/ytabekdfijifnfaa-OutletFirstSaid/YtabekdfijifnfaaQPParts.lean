/- The messages of TLVs: in parts, and where TLVs that say nothing stand between. -/
import Derived.Test.YtabekdfijifnfaaQPBase
import Derived.Test.YtabekdfijifnfaaQPCur
import Derived.Test.YtabekdfijifnfaaQPOct
import Derived.Test.YtabekdfijifnfaaQPTlv
import Derived.Test.YtabekdfijifnfaaQPSub
import Derived.Test.YtabekdfijifnfaaQPMsg
import Derived.Test.YtabekdfijifnfaaQPAddr
import Derived.Test.YtabekdfijifnfaaQPBits
import Derived.Test.YtabekdfijifnfaaQPField
import Derived.Test.YtabekdfijifnfaaQPFieldG
import Derived.Test.YtabekdfijifnfaaQPRoute
import Derived.Test.YtabekdfijifnfaaQPRouteG
import Derived.Test.YtabekdfijifnfaaQPTake
import Derived.Test.YtabekdfijifnfaaQPRouteB
import Derived.Test.YtabekdfijifnfaaQPCtx
import Derived.Test.YtabekdfijifnfaaQPCtxU
import Derived.Test.YtabekdfijifnfaaQPCtxV
import Derived.Test.YtabekdfijifnfaaQPCtxW
import Derived.Test.YtabekdfijifnfaaQPCtxX
import Derived.Test.YtabekdfijifnfaaQPIntake
import Derived.Test.YtabekdfijifnfaaQPFold
set_option linter.unusedVariables false
set_option linter.unusedSimpArgs false
set_option maxRecDepth 100000
namespace Go.VP
open Go Go.VI
theorem foldR_app : ∀ (a b : List Tlv) (c : Ctx) (acc : List Msg), (foldR c a acc).2.2.2 = 0 → foldR c (a ++ b) acc = foldR (foldR c a acc).2.1 b (foldR c a acc).1
  | [], b, c, acc, _ => rfl
  | t :: r, b, c, acc, h => by
    rw [List.cons_append, foldR, foldR]
    rw [foldR] at h
    by_cases he : (oneR c t.type_ t.data).2.2 ≠ 0
    · rw [if_pos he] at h; exact absurd h he
    · rw [if_neg he] at h ⊢
      rw [if_neg he]
      exact foldR_app r b _ _ h
theorem foldR_err : ∀ (a : List Tlv) (c : Ctx) (acc : List Msg), (foldR c a acc).2.2.2 ≠ 0 → (foldR c a acc).1 = [] ∧ (foldR c a acc).2.1 = c0
  | [], c, acc, h => absurd rfl h
  | t :: r, c, acc, h => by
    rw [foldR] at h ⊢
    by_cases he : (oneR c t.type_ t.data).2.2 ≠ 0
    · rw [if_pos he]; exact ⟨rfl, rfl⟩
    · rw [if_neg he] at h ⊢
      exact foldR_err r _ _ h
theorem foldR_fine : ∀ (a : List Tlv) (c : Ctx) (acc : List Msg), (foldR c a acc).2.2.2 = 0 → (foldR c a acc).2.2.1 = 0
  | [], c, acc, h => rfl
  | t :: r, c, acc, h => by
    rw [foldR] at h ⊢
    by_cases he : (oneR c t.type_ t.data).2.2 ≠ 0
    · rw [if_pos he] at h; exact absurd h he
    · rw [if_neg he] at h ⊢
      exact foldR_fine r _ _ h
theorem foldR_acc : ∀ (a : List Tlv) (c : Ctx) (acc : List Msg), (foldR c a acc).2 = (foldR c a []).2 ∧ ((foldR c a []).2.2.2 = 0 → (foldR c a acc).1 = acc ++ (foldR c a []).1)
  | [], c, acc => ⟨rfl, fun _ => (List.append_nil acc).symm⟩
  | t :: r, c, acc => by
    rw [foldR, foldR]
    by_cases he : (oneR c t.type_ t.data).2.2 ≠ 0
    · rw [if_pos he, if_pos he]; exact ⟨rfl, fun h => absurd h he⟩
    · rw [if_neg he, if_neg he]
      obtain ⟨h1, h2⟩ := foldR_acc r (oneR c t.type_ t.data).1 (acc ++ (oneR c t.type_ t.data).2.1)
      obtain ⟨h3, h4⟩ := foldR_acc r (oneR c t.type_ t.data).1 ([] ++ (oneR c t.type_ t.data).2.1)
      rw [h1, h3]
      refine ⟨rfl, fun h => ?_⟩
      rw [h2 h, h4 h, List.nil_append, List.append_assoc]
theorem foldR_len : ∀ (a : List Tlv) (c : Ctx) (acc : List Msg), okC c → (foldR c a acc).1.length ≤ acc.length + a.length ∧ okC (foldR c a acc).2.1
  | [], c, acc, hc => ⟨by show acc.length ≤ _; omega, hc⟩
  | t :: r, c, acc, hc => by
    rw [foldR]
    obtain ⟨h1, h2⟩ := okC_one (ty := t.type_) (d := t.data) hc
    by_cases he : (oneR c t.type_ t.data).2.2 ≠ 0
    · rw [if_pos he]; exact ⟨by simp, okC_c0⟩
    · rw [if_neg he]
      obtain ⟨h3, h4⟩ := foldR_len r _ (acc ++ (oneR c t.type_ t.data).2.1) h1
      exact ⟨by simp only [List.length_append, List.length_cons] at h3 ⊢; omega, h4⟩
theorem foldR_all {P : Msg → Prop} {Q : Tlv → Prop} (hP : ∀ c t, okC c → Q t → ∀ m ∈ (oneR c t.type_ t.data).2.1, P m) : ∀ (a : List Tlv) (c : Ctx) (acc : List Msg), okC c → (∀ t ∈ a, Q t) → (∀ m ∈ acc, P m) → ∀ m ∈ (foldR c a acc).1, P m
  | [], c, acc, hc, hq, h => h
  | t :: r, c, acc, hc, hq, h => by
    rw [foldR]
    obtain ⟨h1, h2⟩ := okC_one (ty := t.type_) (d := t.data) hc
    by_cases he : (oneR c t.type_ t.data).2.2 ≠ 0
    · rw [if_pos he]; intro m hm; cases hm
    · rw [if_neg he]
      refine foldR_all hP r _ _ h1 (fun x hx => hq x (List.mem_cons_of_mem _ hx)) (fun m hm => ?_)
      rcases List.mem_append.1 hm with hm | hm
      · exact h m hm
      · exact hP _ _ hc (hq t (List.mem_cons_self ..)) m hm
def sigT (l : List Tlv) : List (Int × Bs) := (l.filter fun t => decide (t.type_ ≠ 0 ∧ t.type_ ≠ 1)).map fun t => (t.type_, t.data)
theorem oneR_pad {c : Ctx} {ty : Int} {d : Bs} (h : ty = 0 ∨ ty = 1) : oneR c ty d = (c, [], 0) := by unfold oneR; rw [if_pos h]
theorem sigT_pad {t : Tlv} {r : List Tlv} (h : t.type_ = 0 ∨ t.type_ = 1) : sigT (t :: r) = sigT r := by
  unfold sigT; rw [List.filter_cons_of_neg (by simp; omega)]
theorem sigT_real {t : Tlv} {r : List Tlv} (h : ¬ (t.type_ = 0 ∨ t.type_ = 1)) : sigT (t :: r) = (t.type_, t.data) :: sigT r := by
  unfold sigT; rw [List.filter_cons_of_pos (by simp; omega), List.map_cons]
def Except.app (x : Except Int (List Tlv)) (a : List Tlv) : Except Int (List Tlv) := x.map (a ++ ·)
theorem spl_append : ∀ (a : Bs) (p : Int) (la : List Tlv), spl p a = .ok la → ∀ b, spl p (a ++ b) = (spl (p + a.length) b).map (la ++ ·) := by
  intro a
  induction h : a.length using Nat.strongRecOn generalizing a with
  | ind n ih =>
    intro p la hs b
    subst h
    match a, hs with
    | [], hs =>
      rw [spl_nil] at hs
      cases hs
      rw [List.nil_append, show p + ((([] : Bs).length : Nat) : Int) = p by simp]
      cases spl p b <;> rfl
    | t :: r, hs =>
      by_cases ht : t = 0
      · subst ht
        rw [spl_zero] at hs
        cases hr : spl (p + 1) r with
        | error q => rw [hr] at hs; cases hs
        | ok lr =>
          rw [hr] at hs
          cases hs
          have := ih r.length (by simp) r rfl (p + 1) lr hr b
          rw [List.cons_append, spl_zero, this, show p + 1 + (r.length : Int) = p + ((((0 : UInt8) :: r).length : Nat) : Int) by simp; omega]
          cases spl (p + ((((0 : UInt8) :: r).length : Nat) : Int)) b <;> rfl
      · match r, hs with
        | [], hs => rw [spl_one ht] at hs; cases hs
        | n :: d, hs =>
          by_cases hn : d.length < n.toNat
          · rw [spl_bad ht hn] at hs; cases hs
          · rw [spl_all ht (by omega)] at hs
            cases hr : spl (p + 2 + n.toNat) (d.drop n.toNat) with
            | error q => rw [hr] at hs; cases hs
            | ok lr =>
              rw [hr] at hs
              cases hs
              have := ih (d.drop n.toNat).length (by simp; omega) (d.drop n.toNat) rfl _ lr hr b
              rw [List.cons_append, List.cons_append, spl_all ht (by rw [List.length_append]; omega), List.drop_append_of_le_length (by omega), this, List.take_append_of_le_length (by omega), show p + 2 + (n.toNat : Int) + ((d.drop n.toNat).length : Int) = p + (((t :: n :: d).length : Nat) : Int) by simp; omega]
              cases spl (p + (((t :: n :: d).length : Nat) : Int)) b <;> rfl
end Go.VP
