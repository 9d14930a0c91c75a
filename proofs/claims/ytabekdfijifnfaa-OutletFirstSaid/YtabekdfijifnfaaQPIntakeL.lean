/- The messages of a datagram of Babel: program and document; the laws' example. -/
import Derived.Test.YtabekdfijifnfaaQFH
import Derived.Test.YtabekdfijifnfaaQFQ9
import Derived.Test.YtabekdfijifnfaaQPBase
import Derived.Test.YtabekdfijifnfaaQPCur
import Derived.Test.YtabekdfijifnfaaQPOct
import Derived.Test.YtabekdfijifnfaaQPTlv
import Derived.Test.YtabekdfijifnfaaQPSub
import Derived.Test.YtabekdfijifnfaaQPMsg
import Derived.Test.YtabekdfijifnfaaQPAll
import Derived.Test.YtabekdfijifnfaaQPBody
import Derived.Test.YtabekdfijifnfaaQPAddr
import Derived.Test.YtabekdfijifnfaaQPBits
import Derived.Test.YtabekdfijifnfaaQPField
import Derived.Test.YtabekdfijifnfaaQPFieldG
import Derived.Test.YtabekdfijifnfaaQPRoute
import Derived.Test.YtabekdfijifnfaaQPRouteG
import Derived.Test.YtabekdfijifnfaaQPTake
import Derived.Test.YtabekdfijifnfaaQPRouteB
import Derived.Test.YtabekdfijifnfaaQPCtx
import Derived.Test.YtabekdfijifnfaaQPCtxU
import Derived.Test.YtabekdfijifnfaaQPFieldB
import Derived.Test.YtabekdfijifnfaaQPCtxV
import Derived.Test.YtabekdfijifnfaaQPCtxW
import Derived.Test.YtabekdfijifnfaaQPCtxX
import Derived.Test.YtabekdfijifnfaaQPIntake
import Derived.Test.YtabekdfijifnfaaQPFold
import Derived.Test.YtabekdfijifnfaaQPParts
import Derived.Test.YtabekdfijifnfaaQPUpd
import Derived.Test.YtabekdfijifnfaaQPLeanR
set_option linter.unusedVariables false
set_option linter.unusedSimpArgs false
set_option maxRecDepth 100000
namespace Go.VP
open Go Go.VI
def Tg (t : Tlv) : Prop := (0 ≤ t.type_ ∧ t.type_ ≤ 255) ∧ t.data.length ≤ 255
theorem GoodL.small {m : Msg} (g : GoodL m) : Small m := by
  have := g.good.few.list; have := g.good.few.subs; exact ⟨by omega, by omega⟩
theorem one_right {c : Ctx} {t : Tlv} (hc : okC c) (ht : Tg t) : ∀ m ∈ (oneR c t.type_ t.data).2.1, LeanR m ∧ GoodL m := by
  obtain ⟨ty, at_, d⟩ := t
  obtain ⟨ht, hd⟩ := ht
  have hd : d.length ≤ 255 := hd
  have ht : 0 ≤ ty ∧ ty ≤ 255 := ht
  have has0 : IntKind.has .i64 0 := has64.2 (by omega)
  have mt : ∀ m : Msg, FieldR m ∨ RouteR m → m.type_ = 0 ∧ m.metric = 0 := fun m h => by
    have key : ∀ x, bareB m = true → bareOf m = some x → x.type_ = 0 ∧ x.metric = 0 → m.type_ = 0 ∧ m.metric = 0 := fun x hb hx h0 => by
      rw [bareB, hx] at hb
      have := eqB_true.1 hb
      rw [← this]; exact h0
    rcases h with h | h
    · rcases h.kinds with hk | hk | ⟨hk, _⟩ | ⟨hk, _⟩
      · exact key _ h.bare (by unfold bareOf; rw [hk]; rfl) ⟨rfl, rfl⟩
      · exact key _ h.bare (by unfold bareOf; rw [hk]; rfl) ⟨rfl, rfl⟩
      · exact key _ h.bare (by unfold bareOf; rw [hk]; rfl) ⟨rfl, rfl⟩
      · exact key _ h.bare (by unfold bareOf; rw [hk]; rfl) ⟨rfl, rfl⟩
    · rcases h.kinds with hk | ⟨hk, _⟩
      · exact key _ h.bare (by unfold bareOf; rw [hk]; rfl) ⟨rfl, rfl⟩
      · exact key _ h.bare (by unfold bareOf; rw [hk]; rfl) ⟨rfl, rfl⟩
  intro m hm
  dsimp only at hm
  unfold oneR at hm
  split at hm
  · cases hm
  split at hm
  · unfold stepC at hm
    split at hm
    · cases hm
    split at hm
    · cases hm
    split at hm
    · rcases updF_cases (d := d) hc (by omega) with h | ⟨x, h, hu, hg, _⟩
      · rw [h] at hm; cases hm
      · rw [h, List.mem_singleton] at hm; subst hm; exact ⟨.upd hu, hg⟩
    · cases hm
  split at hm
  · rename_i h25
    rcases fieldG_cases (ty := ty) (d := d) h25 (by omega) with ⟨x, h, hr, hg, _⟩ | ⟨e, h⟩
    · rw [h] at hm
      have : m = x := by unfold resF at hm; simpa using hm
      subst this
      have := mt m (.inl hr)
      exact ⟨.field hr, ⟨hg, by rw [this.1]; exact has0, by rw [this.2]; exact has0⟩⟩
    · rw [h] at hm
      unfold resF at hm
      split at hm
      · cases hm
      · cases hm
  split at hm
  · rename_i h910
    rcases routeG_cases (ty := ty) (d := d) h910 (by omega) with ⟨x, h, hr, hg, _⟩ | ⟨e, h⟩
    · rw [h] at hm
      have : m = x := by unfold resF at hm; simpa using hm
      subst this
      have := mt m (.inr hr)
      exact ⟨.route hr, ⟨hg, by rw [this.1]; exact has0, by rw [this.2]; exact has0⟩⟩
    · rw [h] at hm
      unfold resF at hm
      split at hm
      · cases hm
      · cases hm
  · rw [List.mem_singleton] at hm
    subst hm
    have e0 : ([] : Bs).length ≤ 400 := by decide
    have n0 : ([] : List Dest).length ≤ 1000 := by decide
    have hb : bareOf (opaqueM ty d) = some (opaqueM ty d) := rfl
    refine ⟨.opq ⟨rfl, by rw [bareB, hb]; exact eqB_refl _, by show 10 < ty ∧ ty < 256; omega, by show d.length < 256; omega⟩, ⟨⟨⟨n0, by show 0 ≤ 1000; omega, e0, e0, e0, e0, e0, e0, by show d.length ≤ 400; omega, (fun d h => by cases h), (fun d h => by cases h)⟩, has0, has0, has0, has0, has64.2 (by show _ ≤ (14 : Int) ∧ (14 : Int) ≤ _; omega), has0, has0, has0, has0⟩, has64.2 (by show _ ≤ ty ∧ ty ≤ _; omega), has0⟩⟩
theorem fold_right {l : List Tlv} {c : Ctx} (hc : okC c) (hl : ∀ t ∈ l, Tg t) : ∀ m ∈ (foldR c l []).1, LeanR m ∧ GoodL m :=
  foldR_all (P := fun m => LeanR m ∧ GoodL m) (Q := Tg) (fun c t hc ht => one_right hc ht) l c [] hc hl (fun m hm => by cases hm)
theorem spl_tg (s : Bs) : ∀ (p : Int) (l : List Tlv), spl p s = .ok l → ∀ t ∈ l, Tg t := by
  induction h : s.length using Nat.strongRecOn generalizing s with
  | ind n ih =>
    intro p l hs
    subst h
    match s, hs with
    | [], hs => rw [spl_nil] at hs; cases hs; intro t ht; cases ht
    | t :: r, hs =>
      by_cases ht : t = 0
      · subst ht
        rw [spl_zero] at hs
        cases hr : spl (p + 1) r with
        | error q => rw [hr] at hs; cases hs
        | ok lr =>
          rw [hr] at hs; cases hs
          intro x hx
          rcases List.mem_cons.1 hx with rfl | hx
          · exact ⟨by show (0 : Int) ≤ 0 ∧ (0 : Int) ≤ 255; omega, by show 0 ≤ 255; omega⟩
          · exact ih r.length (by simp) r rfl _ lr hr x hx
      · match r, hs with
        | [], hs => rw [spl_one ht] at hs; cases hs
        | n :: d, hs =>
          by_cases hn : d.length < n.toNat
          · rw [spl_bad ht hn] at hs; cases hs
          · rw [spl_all ht (by omega)] at hs
            cases hr : spl (p + 2 + n.toNat) (d.drop n.toNat) with
            | error q => rw [hr] at hs; cases hs
            | ok lr =>
              rw [hr] at hs; cases hs
              intro x hx
              rcases List.mem_cons.1 hx with rfl | hx
              · have h1 := t.toNat_lt
                have h2 := n.toNat_lt
                refine ⟨by show (0 : Int) ≤ (t.toNat : Int) ∧ (t.toNat : Int) ≤ 255; omega, ?_⟩
                show (d.take n.toNat).length ≤ 255
                rw [List.length_take]; omega
              · exact ih (d.drop n.toNat).length (by simp; omega) (d.drop n.toNat) rfl _ lr hr x hx
def parseI (b : Bs) : List Msg × Int × Int :=
  if (bodyF b).2.2 ≠ 0 then ([], (bodyF b).2.1, (bodyF b).2.2)
  else match spl 4 (bodyF b).1 with
    | .error q => ([], q, 2)
    | .ok l => match spl (4 + ((bodyF b).1.length : Int)) (behF b) with
      | .error q => ([], q, 2)
      | .ok _ => ((foldR c0 l []).1, (foldR c0 l []).2.2.1, (foldR c0 l []).2.2.2)
theorem parse_core {b : Bs} {B : Option ((Bs × Int × Int × Unit) × Unit)} {S1 S2 : Bs → Int → Option ((List Tlv × Int × Int × Unit) × Unit)} {T : Option ((Bs × Unit) × Unit)} {F : List Tlv → Option ((List Msg × Ctx × Int × Int × Unit) × Unit)}
    (hB : B = some (trip (bodyF b), ())) (hS1 : ∀ s p, s.length ≤ 1000000000 → 0 ≤ p ∧ p ≤ 1152921504606846976 → S1 s p = some (trip (splOut [] (spl p s)), ())) (hS2 : ∀ s p, s.length ≤ 1000000000 → 0 ≤ p ∧ p ≤ 1152921504606846976 → S2 s p = some (trip (splOut [] (spl p s)), ()))
    (hT : (bodyF b).2.2 = 0 → T = some ((behF b, ()), ()))
    (hF : ∀ l : List Tlv, l.length ≤ 100000 → (∀ t ∈ l, t.data.length ≤ 1000) → F l = some (((foldR c0 l []).1, (foldR c0 l []).2.1, (foldR c0 l []).2.2.1, (foldR c0 l []).2.2.2, ()), ())) :
    (B.bind fun r1 => (if (r1.1.2.2.1 != 0) = true then (some (([], r1.1.2.1, r1.1.2.2.1, ()), ()) : Option ((List Msg × Int × Int × Unit) × Unit)) else ((S1 r1.1.1 4).bind fun r2 => (if (r2.1.2.2.1 != 0) = true then some (([], r2.1.2.1, r2.1.2.2.1, ()), ()) else (T.bind fun r3 => ((S2 r3.1.1 (IntKind.wrap .i64 (4 + (r1.1.1.length : Int)))).bind fun r4 => (if (r4.1.2.2.1 != 0) = true then some (([], r4.1.2.1, r4.1.2.2.1, ()), ()) else ((F r2.1.1).bind fun r5 => some ((r5.1.1, r5.1.2.2.1, r5.1.2.2.2.1, ()), ()))))))))) = some (trip (parseI b), ()) := by
  rw [hB, Option.bind_some]
  unfold parseI
  dsimp only [trip]
  refine ne_step (fun h => by rw [if_pos h]) (fun h => ?_)
  obtain ⟨l1, l2, _, _, l5, _, l7⟩ := bodyF_ok h
  have hr := sizeB_rng b
  have hbl : (behF b).length ≤ 100000 := by unfold behF; rw [List.length_drop]; omega
  have hsl : (bodyF b).1.length ≤ 65535 := by omega
  rw [if_neg (show ¬ (bodyF b).2.2 ≠ 0 from fun q => q h), hS1 _ _ (by omega) (by omega), Option.bind_some]
  cases h1 : spl 4 (bodyF b).1 with
  | error q => rfl
  | ok l =>
    have hk := spl_ok _ _ _ h1
    dsimp only [trip, splOut]
    refine ne_step (fun q => absurd rfl q) (fun _ => ?_)
    rw [hT h, Option.bind_some]
    dsimp only
    rw [w64 (by omega) (by omega), hS2 _ _ (by omega) (by omega), Option.bind_some]
    cases h2 : spl (4 + ((bodyF b).1.length : Int)) (behF b) with
    | error q => rfl
    | ok l2 =>
      dsimp only [trip, splOut]
      refine ne_step (fun q => absurd rfl q) (fun _ => ?_)
      rw [List.nil_append, hF l (by omega) (fun t ht => by have := hk.1 t ht; omega)]
      rfl
theorem riparse_is (b : Bs) : g_ref23_Parse (b, ()) = some (trip (parseI b), ()) := by
  rw [g_ref23_Parse_eq]
  exact parse_core (b := b) (S1 := fun s p => g_ref18_Split (s, p, ())) (S2 := fun s p => g_ref18_Split (s, p, ())) (F := fun l => g_ref23_Fold (l, ())) (rbody_is b) (fun s p h h2 => rsplit_is h h2) (fun s p h h2 => rsplit_is h h2) (fun h => rtrailer_is h) (fun l h h2 => rfold_is h h2)
theorem parseI_cases (b : Bs) : ((parseI b).2.2 ≠ 0 ∧ (parseI b).1 = []) ∨ ∃ l, (bodyF b).2.2 = 0 ∧ spl 4 (bodyF b).1 = .ok l ∧ (∃ k, spl (4 + ((bodyF b).1.length : Int)) (behF b) = .ok k) ∧ (foldR c0 l []).2.2.2 = 0 ∧ parseI b = ((foldR c0 l []).1, 0, 0) := by
  unfold parseI
  by_cases h : (bodyF b).2.2 ≠ 0
  · rw [if_pos h]; exact .inl ⟨h, rfl⟩
  rw [if_neg h]
  cases h1 : spl 4 (bodyF b).1 with
  | error q => exact .inl ⟨by simp, rfl⟩
  | ok l =>
    cases h2 : spl (4 + ((bodyF b).1.length : Int)) (behF b) with
    | error q => exact .inl ⟨by simp, rfl⟩
    | ok k =>
      dsimp only
      by_cases h3 : (foldR c0 l []).2.2.2 = 0
      · exact .inr ⟨l, by simpa using h, rfl, ⟨k, rfl⟩, h3, by rw [foldR_fine l c0 [] h3, h3]⟩
      · exact .inl ⟨h3, (foldR_err l c0 [] h3).1⟩
theorem parseI_right (b : Bs) : (∀ m ∈ (parseI b).1, LeanR m ∧ GoodL m) ∧ (parseI b).1.length ≤ 65535 := by
  rcases parseI_cases b with ⟨_, h⟩ | ⟨l, h0, h1, _, _, h4⟩
  · rw [h]; exact ⟨fun m hm => (by cases hm), by simp⟩
  · rw [h4]
    have hb := (bodyF_ok h0)
    have hr := sizeB_rng b
    have := (foldR_len l c0 [] okC_c0).1
    have hk := (spl_ok _ _ _ h1).2
    exact ⟨fold_right okC_c0 (spl_tg _ _ _ h1), by dsimp only; simp at this; omega⟩
end Go.VP
