/- A TLV of a type that nobody knows, put among others, is one message more: for all arguments. -/
import Derived.Test.YtabekdfijifnfaaFQ12
import Derived.Test.YtabekdfijifnfaaPBase
import Derived.Test.YtabekdfijifnfaaPCur
import Derived.Test.YtabekdfijifnfaaPOct
import Derived.Test.YtabekdfijifnfaaPTlv
import Derived.Test.YtabekdfijifnfaaPSub
import Derived.Test.YtabekdfijifnfaaPMsg
import Derived.Test.YtabekdfijifnfaaPAll
import Derived.Test.YtabekdfijifnfaaPBody
import Derived.Test.YtabekdfijifnfaaPOk
import Derived.Test.YtabekdfijifnfaaPAddr
import Derived.Test.YtabekdfijifnfaaPBits
import Derived.Test.YtabekdfijifnfaaPField
import Derived.Test.YtabekdfijifnfaaPFieldG
import Derived.Test.YtabekdfijifnfaaPFieldB
import Derived.Test.YtabekdfijifnfaaPRoute
import Derived.Test.YtabekdfijifnfaaPRouteG
import Derived.Test.YtabekdfijifnfaaPTake
import Derived.Test.YtabekdfijifnfaaPRouteB
import Derived.Test.YtabekdfijifnfaaPCtx
import Derived.Test.YtabekdfijifnfaaPCtxU
import Derived.Test.YtabekdfijifnfaaPCtxV
import Derived.Test.YtabekdfijifnfaaPCtxW
import Derived.Test.YtabekdfijifnfaaPCtxX
import Derived.Test.YtabekdfijifnfaaPIntake
import Derived.Test.YtabekdfijifnfaaPFold
import Derived.Test.YtabekdfijifnfaaPParts
import Derived.Test.YtabekdfijifnfaaPUpd
import Derived.Test.YtabekdfijifnfaaPLeanR
import Derived.Test.YtabekdfijifnfaaPIntakeL
import Derived.Test.YtabekdfijifnfaaFGood
set_option linter.unusedVariables false
set_option linter.unusedSimpArgs false
set_option maxRecDepth 100000
namespace Go.VP
open Go Go.VI
theorem fold_opq {c : Ctx} {ty p : Int} {d : Bs} (h : 11 ≤ ty) (r : List Tlv) (acc : List Msg) : foldR c (⟨ty, p, d⟩ :: r) acc = foldR c r (acc ++ [opaqueM ty d]) := by
  have : oneR c ty d = (c, [opaqueM ty d], 0) := by
    unfold oneR
    rw [if_neg (by omega), if_neg (by omega), if_neg (by omega), if_neg (by omega)]
  rw [foldR]
  dsimp only
  rw [this, if_neg (by simp)]
theorem opq_tail {o : S_law23_One} (hx : 0 ≤ o.at_ ∧ o.at_ ≤ 255) (ht : 0 ≤ o.type_ ∧ o.type_ ≤ 255) (hl : o.l.length ≤ 40) (hD : o.data.length ≤ 255) (hq : ∀ t ∈ o.l, Tg t) (n m : Nat) : L_law23_IntakeOpaque_0 n (m + 1) o o.l.length = some ((true, ()), ()) := by
  obtain ⟨l, x1, ty, data⟩ := o
  dsimp only at hx ht hl hD hq ⊢
  have h1000 : ∀ t ∈ l, t.data.length ≤ 1000 := fun t ht => by have := (hq t ht).2; omega
  have hmod : (IntKind.wrap .i64 x1).tmod (IntKind.wrap .i64 ((l.length : Int) + 1)) = x1 % (l.length + 1) := by
    rw [w64 (by omega) (by omega), w64 (by omega) (by omega), Int.tmod_eq_emod_of_nonneg (by omega)]
  obtain ⟨k, hk⟩ : ∃ k : Nat, x1 % ((l.length : Int) + 1) = (k : Int) := ⟨(x1 % ((l.length : Int) + 1)).toNat, by have := Int.emod_nonneg x1 (show (l.length : Int) + 1 ≠ 0 by omega); omega⟩
  have hkl : k ≤ l.length := by have := Int.emod_lt_of_pos x1 (show 0 < (l.length : Int) + 1 by omega); omega
  have hty : IntKind.wrap .i64 (11 + (IntKind.wrap .i64 ty).tmod 245) = 11 + ty % 245 := by
    rw [w64 (x := ty) (by omega) (by omega), Int.tmod_eq_emod_of_nonneg (by omega), w64 (by omega) (by omega)]
  obtain ⟨T, hT⟩ : ∃ T, T = 11 + ty % 245 := ⟨_, rfl⟩
  have hT1 : 11 ≤ T ∧ T ≤ 255 := by omega
  have hp : 0 ≤ (k : Int) ∧ (k : Int) ≤ (l.length : Int) := by omega
  have hbo := tlvBo
  have hbm := msgBo2
  have room : ∀ a : Nat, a ≤ 100 → roomB (a * bo_api_Tlv) = true := fun a h => room_mul (by omega) tlvBo
  have roomM : ∀ a : Nat, a ≤ 1000 → roomB (a * bo_api_Msg) = true := fun a h => roomB_of (Nat.le_trans (Nat.mul_le_mul h hbm) (by decide))
  rw [L_law23_IntakeOpaque_0_eq]
  dsimp only
  rw [ifn (by omega), if_pos (by rw [w64 (by omega) (by omega)]; omega), hmod, hk, hty, ← hT, Int.toNat_natCast]
  simp only [if_pos hp]
  rw [if_pos (room _ (by simp; omega)), if_pos (room _ (by simp; omega)), if_pos (room _ (by simp; omega))]
  have hq1 : ∀ t ∈ l.take k, Tg t := fun t ht => hq t (List.mem_of_mem_take ht)
  have hq2 : ∀ t ∈ (([] ++ l.take k) ++ [(⟨T, 0, data⟩ : Tlv)]) ++ l.drop k, Tg t := fun t ht => by
    rw [List.nil_append, List.mem_append, List.mem_append, List.mem_singleton] at ht
    rcases ht with (h | h) | h
    · exact hq1 t h
    · subst h; exact ⟨by show 0 ≤ T ∧ T ≤ 255; omega, hD⟩
    · exact hq t (List.mem_of_mem_drop h)
  rw [fold_is (l := l.take k) (by rw [List.length_take]; omega) (fun t ht => h1000 t (List.mem_of_mem_take ht)), Option.bind_some, fold_is (by omega) h1000, Option.bind_some, fold_is (by simp; omega) (fun t ht => by have := (hq2 t ht).2; omega), Option.bind_some]
  dsimp only
  obtain ⟨e1, e2⟩ := foldR_len (l.take k) c0 [] okC_c0
  obtain ⟨f1, f2⟩ := foldR_len l c0 [] okC_c0
  have hs := fold_right okC_c0 hq1
  have hsl := fold_right okC_c0 hq
  have hbad := foldR_bad (l.take k) (l.drop k) c0 []
  have happ := foldR_app (l.take k) (l.drop k) c0 []
  rw [List.take_append_drop] at hbad happ
  have hbad2 := foldR_bad (l.take k) ([(⟨T, 0, data⟩ : Tlv)] ++ l.drop k) c0 []
  have happ2 := foldR_app (l.take k) ([(⟨T, 0, data⟩ : Tlv)] ++ l.drop k) c0 []
  have heq : (([] ++ l.take k) ++ [(⟨T, 0, data⟩ : Tlv)]) ++ l.drop k = l.take k ++ ([(⟨T, 0, data⟩ : Tlv)] ++ l.drop k) := by rw [List.nil_append, List.append_assoc]
  rw [heq] at hq2 ⊢
  have hs2 := fold_right okC_c0 hq2
  have hn0 : ∀ {x : Int}, x ≠ 0 → (x == 0) = false := fun h => by simpa using h
  have hn1 : ∀ {x : Int}, x ≠ 0 → (x != 0) = true := fun h => by simpa using h
  refine ne_step (fun he => ?_) (fun he => ?_)
  · rw [awb23]
    dsimp only
    rw [ift, hn0 he, iff_, hbad2 he, hn1 he]
  obtain ⟨a1, a2⟩ := foldR_acc (l.drop k) (foldR c0 (l.take k) []).2.1 (foldR c0 (l.take k) []).1
  obtain ⟨b1, b2⟩ := foldR_acc (l.drop k) (foldR c0 (l.take k) []).2.1 ((foldR c0 (l.take k) []).1 ++ [opaqueM T data])
  have h1 := happ he
  have h2 := happ2 he
  rw [List.singleton_append, fold_opq hT1.1] at h2
  obtain ⟨g1, _⟩ := foldR_len (l.drop k) (foldR c0 (l.take k) []).2.1 [] e2
  refine ne_step (fun hf => ?_) (fun hf => ?_)
  · rw [awb23]
    dsimp only
    have hf' : (foldR c0 (l.take k ++ ([(⟨T, 0, data⟩ : Tlv)] ++ l.drop k)) []).2.2.2 ≠ 0 := by
      rw [List.singleton_append, h2, b1, ← a1, ← h1]; exact hf
    rw [ift, he, if_pos (show ((0 : Int) == 0) = true from rfl), hn0 hf, iff_, hn1 hf']
  rw [h1] at hf hsl f1 ⊢
  rw [List.singleton_append] at hs2 ⊢
  rw [h2] at hs2 ⊢
  have z : (foldR (foldR c0 (l.take k) []).2.1 (l.drop k) []).2.2.2 = 0 := by rw [← a1]; exact hf
  have A := a2 z
  have B := b2 z
  rw [A] at hsl f1 ⊢
  rw [B] at hs2 ⊢
  rw [a1, b1]
  simp only [List.length_take, List.length_drop, List.length_nil] at e1 g1
  have hL : ((foldR c0 (l.take k) []).1 ++ (foldR (foldR c0 (l.take k) []).2.1 (l.drop k) []).1).length = (foldR c0 (l.take k) []).1.length + (foldR (foldR c0 (l.take k) []).2.1 (l.drop k) []).1.length := List.length_append
  have hp2 : 0 ≤ ((foldR c0 (l.take k) []).1.length : Int) ∧ ((foldR c0 (l.take k) []).1.length : Int) ≤ (((foldR c0 (l.take k) []).1 ++ (foldR (foldR c0 (l.take k) []).2.1 (l.drop k) []).1).length : Int) := by omega
  rw [ifn (by omega)]
  simp only [if_pos hp2, Int.toNat_natCast, List.take_left, List.drop_left, List.nil_append]
  rw [if_pos (roomM _ (by omega)), if_pos (roomM _ (by simp; omega)), if_pos (roomM _ (by simp; omega)), awb23]
  dsimp only
  rw [ift, z, if_pos (show ((0 : Int) == 0) = true from rfl), ctx_eqs, ift]
  have hcat : ((foldR c0 (l.take k) []).1 ++ [opaqueM T data] ++ (foldR (foldR c0 (l.take k) []).2.1 (l.drop k) []).1).length ≤ 1000000 := by simp; omega
  have := sameA_is hcat (fun m hm => (hs2 m hm).2.small)
  unfold opaqueM at this ⊢
  rw [this]; rfl
theorem opq_go {o : S_law23_One} (hx : 0 ≤ o.at_ ∧ o.at_ ≤ 255) (ht : 0 ≤ o.type_ ∧ o.type_ ≤ 255) {n : Nat} (hl : o.l.length ≤ 40) (hD : o.data.length ≤ 255) : ∀ (d m i : Nat), i + d = o.l.length → d < m → (∀ t ∈ o.l.take i, Tg t) → L_law23_IntakeOpaque_0 n m o i = some ((true, ()), ()) := by
  intro d
  induction d with
  | zero =>
    intro m i hd hm hq
    obtain ⟨m, rfl⟩ : ∃ k, m = k + 1 := ⟨m - 1, by omega⟩
    rw [List.take_of_length_le (by omega)] at hq
    obtain rfl : i = o.l.length := by omega
    exact opq_tail hx ht hl hD hq n m
  | succ d ih =>
    intro m i hd hm hq
    obtain ⟨m, rfl⟩ : ∃ k, m = k + 1 := ⟨m - 1, by omega⟩
    have hi : i < o.l.length := by omega
    have hp : 0 ≤ (i : Int) := by omega
    have := ih m (i + 1) (by omega) (by omega)
    rw [show ((i + 1 : Nat) : Int) = (i : Int) + 1 by omega] at this
    rw [L_law23_IntakeOpaque_0_eq, ifd (by omega)]
    simp only [if_pos hp, Int.toNat_natCast, List.getElem?_eq_getElem hi, Option.bind_some]
    refine dq_body (fun h => awb23 _) (fun h1 => ?_)
    refine dq_body (fun h => awb23 _) (fun h2 => ?_)
    refine dq_body (fun h => awb23 _) (fun h3 => ?_)
    rw [w64 (by omega) (by omega)]
    exact this (tg_take hi hq h1 h2 h3)
theorem intakeOpaque_pure (x0 : S_law23_One) (g0 : Good_law23_One x0) : g_law23_IntakeOpaque (x0, ()) = some ((true, ()), ()) := by
  obtain ⟨_, k1, k2, _⟩ := g0
  show h_law23_IntakeOpaque fuel (x0, ()) = _
  rw [h_law23_IntakeOpaque_eq]
  refine dq_body (fun h => awb23 _) (fun h => ?_)
  refine dq_body (fun h => awb23 _) (fun h' => ?_)
  exact opq_go (n := fuel) (has8.1 k1) (has8.1 k2) (by omega) (by omega) x0.l.length fuel 0 (by omega) (fuel_ge (by omega)) (fun t ht => by simp at ht)
end Go.VP
