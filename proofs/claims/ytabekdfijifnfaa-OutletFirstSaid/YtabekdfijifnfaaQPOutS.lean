/- The bytes of messages, one behind the other: they come back. -/
import Derived.Test.YtabekdfijifnfaaQPBase
import Derived.Test.YtabekdfijifnfaaQPCur
import Derived.Test.YtabekdfijifnfaaQPOct
import Derived.Test.YtabekdfijifnfaaQPTlv
import Derived.Test.YtabekdfijifnfaaQPSub
import Derived.Test.YtabekdfijifnfaaQPMsg
import Derived.Test.YtabekdfijifnfaaQPAll
import Derived.Test.YtabekdfijifnfaaQPWrap
import Derived.Test.YtabekdfijifnfaaQPBody
import Derived.Test.YtabekdfijifnfaaQFH
import Derived.Test.YtabekdfijifnfaaQPAddr
import Derived.Test.YtabekdfijifnfaaQPBits
import Derived.Test.YtabekdfijifnfaaQPField
import Derived.Test.YtabekdfijifnfaaQPFieldG
import Derived.Test.YtabekdfijifnfaaQPRoute
import Derived.Test.YtabekdfijifnfaaQPRouteG
import Derived.Test.YtabekdfijifnfaaQPTake
import Derived.Test.YtabekdfijifnfaaQPRouteB
import Derived.Test.YtabekdfijifnfaaQPCtx
import Derived.Test.YtabekdfijifnfaaQPCtxU
import Derived.Test.YtabekdfijifnfaaQPFieldB
import Derived.Test.YtabekdfijifnfaaQPCtxV
import Derived.Test.YtabekdfijifnfaaQPCtxW
import Derived.Test.YtabekdfijifnfaaQPCtxX
import Derived.Test.YtabekdfijifnfaaQPIntake
import Derived.Test.YtabekdfijifnfaaQPFold
import Derived.Test.YtabekdfijifnfaaQPParts
import Derived.Test.YtabekdfijifnfaaQPUpd
import Derived.Test.YtabekdfijifnfaaQPLeanR
import Derived.Test.YtabekdfijifnfaaQPCtxL
import Derived.Test.YtabekdfijifnfaaQPLead
import Derived.Test.YtabekdfijifnfaaQPLean
import Derived.Test.YtabekdfijifnfaaQPLeanB
import Derived.Test.YtabekdfijifnfaaQPIntakeL
set_option linter.unusedVariables false
set_option linter.unusedSimpArgs false
set_option maxRecDepth 100000
namespace Go.VP
open Go Go.VI
noncomputable def outS : Ctx → List Msg → Option (Bs × Ctx)
  | c, [] => some ([], c)
  | c, m :: r => if (putL c m).2.2 ≠ 0 then none else (outS (putL c m).2.1 r).map fun x => ((putL c m).1 ++ x.1, x.2)
noncomputable def goO : Ctx → List Msg → Nat → Bs → Bs × Int × Int
  | _, [], _, b => ((wrapF b).1, 0, 0)
  | c, m :: r, i, b => if (putL c m).2.2 ≠ 0 then ([], i, (putL c m).2.2) else if 65531 < ((b ++ (putL c m).1).length : Int) then ([], i, 10) else goO (putL c m).2.1 r (i + 1) (b ++ (putL c m).1)
noncomputable def badL : List Msg → Nat → Option Nat
  | [], _ => none
  | m :: r, i => if leanB m = false then some i else badL r (i + 1)
noncomputable def encO (l : List Msg) : Bs × Int × Int := match badL l 0 with
  | some i => ([], i, 1)
  | none => goO c0 l 0 []
theorem badL_none : ∀ {l : List Msg} {i : Nat}, badL l i = none ↔ ∀ m ∈ l, leanB m = true
  | [], i => by simp [badL]
  | m :: r, i => by
    rw [badL]
    by_cases h : leanB m = false
    · rw [if_pos h]; simp [h]
    · rw [if_neg h, badL_none (l := r)]
      simp at h; simp [h]
theorem badL_some : ∀ {l : List Msg} {i k : Nat}, badL l i = some k → i ≤ k ∧ k < i + l.length
  | [], i, k, h => by cases h
  | m :: r, i, k, h => by
    rw [badL] at h
    split at h
    · cases h; simp
    · have := badL_some h; simp; omega
theorem outS_says : ∀ {l : List Msg} {c d : Ctx} {s : Bs}, okC c → (∀ m ∈ l, LeanR m) → outS c l = some (s, d) → Says c s l d ∧ okC d
  | [], c, d, s, hc, hl, h => by rw [outS] at h; cases h; exact ⟨says_nil c, hc⟩
  | m :: r, c, d, s, hc, hl, h => by
    rw [outS] at h
    split at h
    · cases h
    · rename_i he
      have he : (putL c m).2.2 = 0 := by simpa using he
      cases ho : outS (putL c m).2.1 r with
      | none => rw [ho] at h; cases h
      | some x =>
        rw [ho] at h
        cases h
        have hR := hl m (List.mem_cons_self ..)
        obtain ⟨h1, h2⟩ := outS_says (putL_ok hc hR) (fun x hx => hl x (List.mem_cons_of_mem _ hx)) ho
        exact ⟨says_app (putL_back hc hR he) h1, h2⟩
theorem outS_app : ∀ {a b : List Msg} {c d : Ctx} {s : Bs}, outS c (a ++ b) = some (s, d) → ∃ s1 d1 s2, outS c a = some (s1, d1) ∧ outS d1 b = some (s2, d) ∧ s = s1 ++ s2
  | [], b, c, d, s, h => ⟨[], c, s, rfl, h, rfl⟩
  | m :: r, b, c, d, s, h => by
    rw [List.cons_append, outS] at h
    split at h
    · cases h
    · rename_i he
      cases ho : outS (putL c m).2.1 (r ++ b) with
      | none => rw [ho] at h; cases h
      | some x =>
        rw [ho] at h
        cases h
        obtain ⟨s1, d1, s2, h1, h2, h3⟩ := outS_app ho
        exact ⟨(putL c m).1 ++ s1, d1, s2, by rw [outS, if_neg he, h1]; rfl, h2, by rw [h3, List.append_assoc]⟩
theorem goO_of : ∀ {l : List Msg} {c d : Ctx} {s b : Bs} {i : Nat}, outS c l = some (s, d) → ((b ++ s).length : Int) ≤ 65531 → goO c l i b = ((wrapF (b ++ s)).1, 0, 0)
  | [], c, d, s, b, i, h, hl => by rw [outS] at h; cases h; rw [goO, List.append_nil]
  | m :: r, c, d, s, b, i, h, hl => by
    rw [outS] at h
    split at h
    · cases h
    · rename_i he
      cases ho : outS (putL c m).2.1 r with
      | none => rw [ho] at h; cases h
      | some x =>
        rw [ho] at h
        cases h
        rw [← List.append_assoc] at hl ⊢
        have hl2 : (((b ++ (putL c m).1) ++ x.1).length : Int) ≤ 65531 := hl
        rw [goO, if_neg he, if_neg (by simp only [List.length_append] at hl2 ⊢; omega)]
        exact goO_of ho hl2
theorem goO_inv : ∀ {l : List Msg} {c : Ctx} {b : Bs} {i : Nat}, (goO c l i b).2.2 = 0 → (b.length : Int) ≤ 65531 → ∃ s d, outS c l = some (s, d) ∧ ((b ++ s).length : Int) ≤ 65531
  | [], c, b, i, h, hb => ⟨[], c, rfl, by simpa using hb⟩
  | m :: r, c, b, i, h, hb => by
    rw [goO] at h
    split at h
    · rename_i he; exact absurd h he
    rename_i he
    split at h
    · exact absurd h (show ¬ ((10 : Int) = 0) by decide)
    rename_i hl
    obtain ⟨s, d, h1, h2⟩ := goO_inv h (by omega)
    exact ⟨(putL c m).1 ++ s, d, by rw [outS, if_neg he, h1]; rfl, by rw [← List.append_assoc]; exact h2⟩
theorem goO_err : ∀ {l : List Msg} {c : Ctx} {b : Bs} {i : Nat}, okC c → (∀ m ∈ l, leanB m = true) → (goO c l i b).2.2 ≠ 0 → (goO c l i b).1 = [] ∧ (i : Int) ≤ (goO c l i b).2.1 ∧ (goO c l i b).2.1 < ((i + l.length : Nat) : Int) ∧ (goO c l i b).2.2 ≠ 1
  | [], c, b, i, hc, hl, h => absurd rfl h
  | m :: r, c, b, i, hc, hl, h => by
    rw [goO] at h ⊢
    have hm := hl m (List.mem_cons_self ..)
    split at h
    · rename_i he
      rw [if_pos he]
      have := putL_err he
      refine ⟨rfl, by dsimp only; omega, by dsimp only; simp; omega, ?_⟩
      intro q
      have q2 := this.2.2.2.1 q
      rw [hm] at q2; cases q2
    rename_i he
    rw [if_neg he]
    split at h
    · rename_i hb; rw [if_pos hb]; exact ⟨rfl, by dsimp only; omega, by dsimp only; simp; omega, show (10 : Int) ≠ 1 by decide⟩
    rename_i hb
    rw [if_neg hb]
    obtain ⟨h1, h2, h3, h4⟩ := goO_err (putL_ok hc (leanR_iff.1 hm)) (fun x hx => hl x (List.mem_cons_of_mem _ hx)) h
    exact ⟨h1, by omega, by simp only [List.length_cons]; omega, h4⟩
theorem parse_out {l : List Msg} {s : Bs} {d : Ctx} (h : Says c0 s l d) (hs : (s.length : Int) ≤ 65531) : parseI (wrapF s).1 = (l, 0, 0) := by
  obtain ⟨w1, w2, w3, w4⟩ := body_wrap (s := s) (t := []) (by omega) (by simp; omega)
  rw [List.append_nil] at w1 w2
  obtain ⟨tl, h1, h2, h3⟩ := h 4
  have hf := h3 []
  unfold parseI
  rw [w1, w2, if_neg (by simp)]
  dsimp only
  rw [h1, spl_nil]
  dsimp only
  rw [hf]; rfl
theorem encO_ok {l : List Msg} (h : (encO l).2.2 = 0) : (∀ m ∈ l, leanB m = true) ∧ ∃ s d, outS c0 l = some (s, d) ∧ (s.length : Int) ≤ 65531 ∧ encO l = ((wrapF s).1, 0, 0) ∧ Says c0 s l d ∧ (encO l).1.length = 4 + s.length := by
  unfold encO at h ⊢
  cases hb : badL l 0 with
  | some i => rw [hb] at h; exact absurd h (show ¬ ((1 : Int) = 0) by decide)
  | none =>
    rw [hb] at h
    dsimp only at h ⊢
    have hl := badL_none.1 hb
    obtain ⟨s, d, h1, h2⟩ := goO_inv h (by simp)
    have h2' : (s.length : Int) ≤ 65531 := by simpa using h2
    have h3 := goO_of (i := 0) (b := []) h1 (by simpa using h2')
    rw [List.nil_append] at h3
    refine ⟨hl, s, d, h1, h2', h3, (outS_says okC_c0 (fun m hm => leanR_iff.1 (hl m hm)) h1).1, ?_⟩
    rw [h3]
    exact (body_wrap (s := s) (t := []) (by omega) (by simp; omega)).2.2.1
theorem encO_of {l : List Msg} {s : Bs} {d : Ctx} (hl : ∀ m ∈ l, leanB m = true) (h1 : outS c0 l = some (s, d)) (h2 : (s.length : Int) ≤ 65531) : encO l = ((wrapF s).1, 0, 0) := by
  have h3 := goO_of (i := 0) (b := []) h1 (by simpa using h2)
  rw [List.nil_append] at h3
  unfold encO
  rw [badL_none.2 hl]; exact h3
theorem encO_err {l : List Msg} (h : (encO l).2.2 ≠ 0) : (encO l).1 = [] ∧ 0 ≤ (encO l).2.1 ∧ (encO l).2.1 < l.length ∧ ((encO l).2.2 = 1 ↔ ∃ m ∈ l, leanB m = false) := by
  unfold encO at h ⊢
  cases hb : badL l 0 with
  | some i =>
    have := badL_some hb
    have hn : ¬ ∀ m ∈ l, leanB m = true := fun q => by rw [badL_none.2 q] at hb; cases hb
    have he : ∃ m ∈ l, leanB m = false := Classical.byContradiction fun q => hn fun m hm => by
      cases e : leanB m with
      | true => rfl
      | false => exact absurd ⟨m, hm, e⟩ q
    exact ⟨rfl, by dsimp only; omega, by dsimp only; omega, fun _ => he, fun _ => rfl⟩
  | none =>
    rw [hb] at h
    dsimp only at h ⊢
    have hl := badL_none.1 hb
    obtain ⟨h1, h2, h3, h4⟩ := goO_err okC_c0 hl h
    exact ⟨h1, by omega, by omega, fun q => absurd q h4, fun ⟨m, hm, q⟩ => by rw [hl m hm] at q; cases q⟩
noncomputable def plainGo : List Msg → Int → Int
  | [], n => n
  | m :: r, n => if (plainL m).2 = false then 0 else plainGo r (n + ((plainL m).1.length : Int))
theorem plainL_yes {m : Msg} : (plainL m).2 = leanB m := by
  unfold plainL
  cases h : leanB m with
  | false => rw [if_pos rfl]
  | true => rw [if_neg (show ¬ (true = false) by simp)]; split <;> rfl
theorem plainGo_zero : ∀ {l : List Msg} {n : Int}, 4 ≤ n → (plainGo l n = 0 ↔ ∃ m ∈ l, leanB m = false) ∧ 0 ≤ plainGo l n
  | [], n, h => by rw [plainGo]; exact ⟨⟨fun q => by omega, fun ⟨m, hm, _⟩ => by cases hm⟩, by omega⟩
  | m :: r, n, h => by
    rw [plainGo, plainL_yes]
    cases hm : leanB m with
    | false => rw [if_pos rfl]; exact ⟨⟨fun _ => ⟨m, List.mem_cons_self .., hm⟩, fun _ => rfl⟩, by omega⟩
    | true =>
      rw [if_neg (show ¬ (true = false) by simp)]
      obtain ⟨h1, h2⟩ := plainGo_zero (l := r) (n := n + ((plainL m).1.length : Int)) (by omega)
      refine ⟨h1.trans ⟨fun ⟨x, hx, q⟩ => ⟨x, List.mem_cons_of_mem _ hx, q⟩, fun ⟨x, hx, q⟩ => ?_⟩, h2⟩
      rcases List.mem_cons.1 hx with rfl | hx
      · rw [hm] at q; cases q
      · exact ⟨x, hx, q⟩
theorem outS_short : ∀ {l : List Msg} {c d : Ctx} {s : Bs} {n : Int}, (∀ m ∈ l, leanB m = true) → outS c l = some (s, d) → n + s.length ≤ plainGo l n
  | [], c, d, s, n, hl, h => by rw [outS] at h; cases h; rw [plainGo]; simp
  | m :: r, c, d, s, n, hl, h => by
    rw [outS] at h
    have hm := hl m (List.mem_cons_self ..)
    split at h
    · cases h
    · rename_i he
      have he : (putL c m).2.2 = 0 := by simpa using he
      cases ho : outS (putL c m).2.1 r with
      | none => rw [ho] at h; cases h
      | some x =>
        rw [ho] at h
        cases h
        have h1 := putL_short (leanR_iff.1 hm) he
        have h2 := outS_short (n := n + ((plainL m).1.length : Int)) (fun x hx => hl x (List.mem_cons_of_mem _ hx)) ho
        rw [plainGo, plainL_yes, hm, if_neg (show ¬ (true = false) by simp)]
        simp only [List.length_append]
        omega
theorem nextC_hop {c : Ctx} {d : Bs} {f : Int} (h : nextC c f ≠ []) : nextC (hopF c d).1 f ≠ [] := by
  unfold hopF
  split
  · exact h
  split
  · exact h
  rename_i h1 h2
  split
  · rename_i hk
    have hl := countF_known hk
    have hn := hopN_rng (bt d 0)
    have hne : hopA d ≠ [] := by
      have hv : bt d 0 = 1 ∨ bt d 0 = 2 ∨ bt d 0 = 3 := by omega
      have hc := cut_length (s := d) (p := 2) (n := hopN (bt d 0)) (by omega) (by omega) (by omega)
      unfold hopA
      rcases hv with e | e | e
      · rw [e] at hc ⊢; rw [if_neg (by decide)]; intro q; rw [q] at hc; exact absurd hc (by decide)
      · rw [e] at hc ⊢; rw [if_neg (by decide)]; intro q; rw [q] at hc; exact absurd hc (by decide)
      · rw [e] at hc ⊢; rw [if_pos rfl]
        have h8 : hopN 3 = 8 := rfl
        rw [h8] at hc ⊢
        unfold longF; rw [if_pos (by omega)]
        simp [linkP]
    show nextC (setN c (famE (bt d 0)) (hopA d)) f ≠ []
    unfold nextC setN at *
    dsimp only
    by_cases f0 : f = 0
    · rw [if_pos f0] at h ⊢; split
      · exact hne
      · exact h
    · rw [if_neg f0] at h ⊢; split
      · exact hne
      · exact h
  · exact h
theorem nextC_upd {c : Ctx} {d : Bs} {f : Int} : nextC (updF c d).1 f = nextC c f := by
  have hfl : ∀ r a, nextC (flagsF c r a) f = nextC c f := fun r a => by
    unfold flagsF; split
    · rfl
    · dsimp only; split <;> rfl
  unfold updF; split
  · split
    · split <;> exact hfl _ _
    · rfl
  · rfl
theorem nextC_one {c : Ctx} {t : Tlv} {f : Int} (h : nextC c f ≠ []) : nextC (oneR c t.type_ t.data).1 f ≠ [] := by
  have hres : ∀ x, (resF c x).1 = c := fun x => (resF_cl c x).1
  unfold oneR; split
  · exact h
  split
  · unfold stepC; split
    · show nextC (idF c t.data).1 f ≠ []
      unfold idF; split <;> exact h
    split
    · exact nextC_hop h
    split
    · rw [nextC_upd]; exact h
    · exact h
  split
  · rw [hres]; exact h
  split
  · rw [hres]; exact h
  · exact h
theorem tput_len' {t : Int} {b : Bs} : (tput t b).1.length ≤ 2 + b.length := by unfold tput; split <;> simp; omega
theorem one_out {c e : Ctx} {t : Tlv} (hc : okC c) (ht : Tg t) (hJ : ∀ f, f = 0 ∨ f = 1 → nextC e f ≠ [] → nextC c f ≠ []) {m : Msg} (hm : m ∈ (oneR c t.type_ t.data).2.1) :
    (putL e m).2.2 = 0 ∧ (putL e m).1.length ≤ 20 * (2 + t.data.length) ∧ ∀ f, f = 0 ∨ f = 1 → nextC (putL e m).2.1 f ≠ [] → nextC (oneR c t.type_ t.data).1 f ≠ [] := by
  obtain ⟨hR, hg⟩ := one_right hc ht m hm
  have hB := leanR_iff.2 hR
  have hmono := fun f (h : nextC c f ≠ []) => nextC_one (t := t) h
  obtain ⟨ty, at_, d⟩ := t
  obtain ⟨ht1, hd⟩ := ht
  have hd : d.length ≤ 255 := hd
  dsimp only at *
  have notU : m.kind ≠ 11 → (otherF m).length ≤ 20 * (2 + d.length) → (putL e m).2.2 = 0 ∧ (putL e m).1.length ≤ 20 * (2 + d.length) ∧ ∀ f, f = 0 ∨ f = 1 → nextC (putL e m).2.1 f ≠ [] → nextC (oneR c ty d).1 f ≠ [] := fun hk hl => by
    have : putL e m = (otherF m, e, 0) := by unfold putL; rw [hB, if_neg (show ¬ (true = false) by simp), if_pos hk]
    rw [this]; exact ⟨rfl, hl, fun f hf q => hmono f (hJ f hf q)⟩
  unfold oneR at hm
  split at hm
  · cases hm
  split at hm
  · unfold stepC at hm
    split at hm
    · cases hm
    split at hm
    · cases hm
    split at hm
    · rename_i h6 h7 h8
      rcases updF_cases (d := d) hc (by omega) with h | ⟨x, h, hu, _, hsub, _, hnx⟩
      · rw [h] at hm; cases hm
      · rw [h, List.mem_singleton] at hm; subst hm
        have hk := hu.kind
        have e1 : oneR c ty d = updF c d := by
          unfold oneR; rw [if_neg (by omega), if_pos (by omega)]
          unfold stepC; rw [if_neg h6, if_neg h7, if_pos h8]
        rw [e1] at hmono ⊢
        have hx : ¬ (m.metric ≠ 65535 ∧ m.next = [] ∧ nextC e (famE m.ae) ≠ []) := fun ⟨q1, q2, q3⟩ => by
          have := (hnx q1).2
          rw [nextC_upd, q2] at this
          exact hJ _ (hu.fam q1).1 q3 this
        have hp : putL e m = (headL e m ++ updT m (leadC e m), setP (knownL e m) m.ae m.prefix_, 0) := by
          unfold putL
          rw [hB, if_neg (show ¬ (true = false) by simp), if_neg (show ¬ (m.kind ≠ 11) from fun q => q hk), if_neg hx]
        rw [hp]
        refine ⟨rfl, ?_, fun f hf01 q => ?_⟩
        · have l1 := updD_len hu (leadC e m)
          have l2 := lenSub (l := m.subs)
          obtain ⟨_, _, _, h16, _, _⟩ := hu.pre
          have l3 : (updT m (leadC e m)).length ≤ 2 + (updD m (leadC e m)).length := tput_len'
          have l4 : (headL e m).length ≤ 32 := by
            unfold headL; split
            · simp
            · rename_i hm'
              obtain ⟨hf, hop⟩ := hu.fam hm'
              have hid := (hu.near hm').2.1
              have a1 : (idT m.id).length ≤ 12 := by have : (idT m.id).length ≤ 2 + (idD m.id).length := tput_len'; have e : (idD m.id).length = 10 := by unfold idD; simp [hid]
                                                     omega
              have a2 : m.next ≠ [] → (hopT m.next).length ≤ 20 := fun hne => by
                have : (hopT m.next).length ≤ 2 + (hopD m.next).length := tput_len'
                have e : (hopD m.next).length ≤ 18 := by
                  have := hop hne
                  unfold hopD; split
                  · simp; omega
                  split <;> simp <;> omega
                omega
              rw [List.length_append]
              split <;> split
              · simp
              · rename_i _ q
                by_cases hne : m.next = []
                · exact absurd (by rw [hne]; cases hq : nextC e (famE m.ae) with
                    | nil => rfl
                    | cons a b => exact absurd ⟨hm', hne, by rw [hq]; simp⟩ hx) q
                · have := a2 hne; simp; omega
              · simp; omega
              · rename_i _ q
                by_cases hne : m.next = []
                · exact absurd (by rw [hne]; cases hq : nextC e (famE m.ae) with
                    | nil => rfl
                    | cons a b => exact absurd ⟨hm', hne, by rw [hq]; simp⟩ hx) q
                · have := a2 hne; omega
          dsimp only
          rw [List.length_append]
          omega
        · dsimp only at q
          rw [setP_next] at q
          rw [nextC_upd]
          unfold knownL at q
          split at q
          · exact hJ f hf01 q
          · rename_i hm'
            obtain ⟨hf, hop⟩ := hu.fam hm'
            have hq := (hnx hm').2
            rw [nextC_upd] at hq
            by_cases hff : f = famE m.ae
            · rw [hff] at q ⊢
              rw [nextC_setN hf] at q
              rw [hq]; exact q
            · have : nextC (setN (setId e m.id) (famE m.ae) m.next) f = nextC e f := by
                generalize famE m.ae = g at hf hff
                rcases hf01 with rfl | rfl
                · have hg : g = 1 := by omega
                  subst hg; rfl
                · have hg : g = 0 := by omega
                  subst hg; rfl
              rw [this] at q
              exact hJ f hf01 q
    · cases hm
  split at hm
  · rename_i h25
    rcases fieldG_cases (ty := ty) (d := d) h25 (by omega) with ⟨x, h, hr, _, hl⟩ | ⟨e', h⟩
    · rw [h] at hm
      have : m = x := by unfold resF at hm; simpa using hm
      subst this
      have hk := fieldB_kind (fieldR_iff.2 hr)
      refine notU (by omega) ?_
      unfold otherF
      rw [if_neg (by omega), if_neg (by omega), (fieldPut_ok hr).1]
      simp only [List.length_cons]; omega
    · rw [h] at hm
      unfold resF at hm
      split at hm <;> cases hm
  split at hm
  · rename_i h910
    rcases routeG_cases (ty := ty) (d := d) h910 (by omega) with ⟨x, h, hr, _, hl, _⟩ | ⟨e', h⟩
    · rw [h] at hm
      have : m = x := by unfold resF at hm; simpa using hm
      subst this
      have hk := routeB_kind (routeR_iff.2 hr)
      refine notU (by omega) ?_
      unfold otherF
      rw [if_pos hk, (routePut_ok hr).1]
      simp only [List.length_cons]; omega
    · rw [h] at hm
      unfold resF at hm
      split at hm <;> cases hm
  · rw [List.mem_singleton] at hm
    subst hm
    refine notU (show (14 : Int) ≠ 11 by decide) ?_
    have : otherF (opaqueM ty d) = (tput ty d).1 := by
      unfold otherF
      rw [if_neg (show ¬ ((opaqueM ty d).kind = 12 ∨ (opaqueM ty d).kind = 13) from fun q => by rcases q with q | q <;> exact absurd q (show ¬ ((14 : Int) = _) by decide)), if_pos (show (opaqueM ty d).kind = 14 from rfl)]; rfl
    rw [this]
    have : (tput ty d).1.length ≤ 2 + d.length := tput_len'
    omega
theorem elen_cons (t : Tlv) (r : List Tlv) : elen (t :: r) = (if t.type_ = 0 then 1 else 2 + t.data.length) + elen r := rfl
theorem fold_out : ∀ {l : List Tlv} {c e : Ctx}, okC c → okC e → (∀ t ∈ l, Tg t) → (∀ f, f = 0 ∨ f = 1 → nextC e f ≠ [] → nextC c f ≠ []) → (foldR c l []).2.2.2 = 0 → ∃ s d, outS e (foldR c l []).1 = some (s, d) ∧ s.length ≤ 20 * elen l
  | [], c, e, hc, he, hl, hJ, h0 => ⟨[], e, rfl, by simp⟩
  | t :: r, c, e, hc, he, hl, hJ, h0 => by
    have ht := hl t (List.mem_cons_self ..)
    obtain ⟨o1, o2⟩ := okC_one (ty := t.type_) (d := t.data) hc
    rw [foldR] at h0 ⊢
    by_cases hx : (oneR c t.type_ t.data).2.2 ≠ 0
    · rw [if_pos hx] at h0; exact absurd h0 hx
    rw [if_neg hx, List.nil_append] at h0 ⊢
    obtain ⟨a1, a2⟩ := foldR_acc r (oneR c t.type_ t.data).1 (oneR c t.type_ t.data).2.1
    have h0' : (foldR (oneR c t.type_ t.data).1 r []).2.2.2 = 0 := by rw [← a1]; exact h0
    rw [a2 h0', elen_cons]
    have hmono : ∀ f, f = 0 ∨ f = 1 → nextC e f ≠ [] → nextC (oneR c t.type_ t.data).1 f ≠ [] := fun f hf q => nextC_one (hJ f hf q)
    have hone := fun m (hm : m ∈ (oneR c t.type_ t.data).2.1) => one_out (e := e) hc ht hJ hm
    have hright := one_right hc ht
    have h00 : t.type_ = 0 → (oneR c t.type_ t.data).2.1 = [] := fun q => by rw [oneR_pad (.inl q)]
    generalize (oneR c t.type_ t.data).2.1 = M at *
    match M, o2, hone, hright, h00 with
    | [], _, _, _, _ =>
      obtain ⟨s, d, h1, h2⟩ := fold_out o1 he (fun x hx => hl x (List.mem_cons_of_mem _ hx)) hmono h0'
      exact ⟨s, d, h1, by omega⟩
    | [m], _, hone, hright, h00 =>
      obtain ⟨k1, k2, k3⟩ := hone m (by simp)
      have hz : t.type_ ≠ 0 := fun q => by have := h00 q; cases this
      obtain ⟨s, d, h1, h2⟩ := fold_out o1 (putL_ok he (hright m (by simp)).1) (fun x hx => hl x (List.mem_cons_of_mem _ hx)) k3 h0'
      refine ⟨(putL e m).1 ++ s, d, ?_, ?_⟩
      · rw [List.singleton_append, outS, if_neg (by simpa using k1), h1]; rfl
      · rw [if_neg hz, List.length_append]; omega
    | a :: b :: x, o2, _, _, _ => simp at o2
theorem parse_again {b : Bs} (hb : b.length ≤ 3000) (h : (parseI b).2.2 = 0) : (encO (parseI b).1).2.2 = 0 ∧ (encO (parseI b).1).2.1 = 0 ∧ parseI (encO (parseI b).1).1 = ((parseI b).1, 0, 0) := by
  rcases parseI_cases b with ⟨h1, _⟩ | ⟨l, h0, h1, h2, h3, h4⟩
  · exact absurd h h1
  rw [h4]
  dsimp only
  have hbo := bodyF_ok h0
  have hr := sizeB_rng b
  have htg := spl_tg _ _ _ h1
  have hel := (spl_more _ 4 4 l h1).1
  obtain ⟨s, d, k1, k2⟩ := fold_out (e := c0) okC_c0 okC_c0 htg (fun f _ q => q) h3
  have hright := fold_right okC_c0 htg
  have hB : ∀ m ∈ (foldR c0 l []).1, leanB m = true := fun m hm => leanR_iff.2 (hright m hm).1
  have hs : (s.length : Int) ≤ 65531 := by omega
  have he := encO_of hB k1 hs
  have hsay := (outS_says okC_c0 (fun m hm => (hright m hm).1) k1).1
  rw [he]
  exact ⟨rfl, rfl, parse_out hsay hs⟩
end Go.VP
