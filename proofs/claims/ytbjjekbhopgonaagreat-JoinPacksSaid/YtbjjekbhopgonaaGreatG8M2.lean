import Derived.Test.YtbjjekbhopgonaaGreatG8M0
import Derived.Test.YtbjjekbhopgonaaGreatG8M1
import Derived.Test.YtbjjekbhopgonaaGreatG8FQ15
import Derived.Test.YtbjjekbhopgonaaGreatG8FH
import Derived.Test.YtbjjekbhopgonaaGreatG8FQ6
import Derived.Test.YtbjjekbhopgonaaGreatG8FQ0
import Derived.Test.YtbjjekbhopgonaaGreatG8FQ2
import Derived.Test.YtbjjekbhopgonaaGreatG8FQ7
import Derived.Test.YtbjjekbhopgonaaGreatG8FQ8
import Derived.Test.YtbjjekbhopgonaaGreatG8FQ1
import Derived.Test.YtbjjekbhopgonaaGreatG8FQ11
import Derived.Test.YtbjjekbhopgonaaGreatG8FQ12
import Derived.Test.YtbjjekbhopgonaaGreatG8FQ4
import Derived.Test.YtbjjekbhopgonaaGreatG8FGood
set_option linter.unusedVariables false
set_option linter.unusedSimpArgs false
set_option maxRecDepth 100000
namespace Go.VP
open Go Go.VI
def Tg' (t : Tlv) : Prop := ((0 ≤ t.type_ ∧ t.type_ ≤ 255) ∧ t.data.length ≤ 255) ∧ t.type_ ≠ 0 ∧ t.type_ ≠ 1
def Says (c : Ctx) (s : Bs) (M : List Msg) (d : Ctx) : Prop := ∀ p, ∃ l, spl p s = .ok l ∧ (∀ t ∈ l, Tg' t) ∧ ∀ acc, foldR c l acc = (acc ++ M, d, 0, 0)
theorem says_nil (c : Ctx) : Says c [] [] c := fun p => ⟨[], spl_nil p, (fun t ht => by cases ht), fun acc => by rw [foldR, List.append_nil]⟩
theorem says_app {c d e : Ctx} {s t : Bs} {M N : List Msg} (h : Says c s M d) (h2 : Says d t N e) : Says c (s ++ t) (M ++ N) e := fun p => by
  obtain ⟨l, l1, l2, l3⟩ := h p
  obtain ⟨k, k1, k2, k3⟩ := h2 (p + s.length)
  refine ⟨l ++ k, by rw [spl_append s p l l1, k1]; rfl, fun x hx => ?_, fun acc => ?_⟩
  · rcases List.mem_append.1 hx with hx | hx
    · exact l2 x hx
    · exact k2 x hx
  · rw [foldR_app l k c acc (by rw [l3]), l3, k3, List.append_assoc]
theorem says_one {c d : Ctx} {t : Int} {b : Bs} {M : List Msg} (ht : 2 ≤ t ∧ t ≤ 255) (hb : b.length ≤ 255) (h : oneR c t b = (d, M, 0)) : Says c (tput t b).1 M d := fun p => by
  have e : (tput t b).1 = u8of t :: u8of b.length :: b := by unfold tput; rw [if_pos ⟨by omega, ht.2, hb⟩]
  refine ⟨[⟨t, p, b⟩], by rw [e]; exact spl_tput ⟨by omega, ht.2⟩ hb, fun x hx => ?_, fun acc => ?_⟩
  · rw [List.mem_singleton] at hx; subst hx
    exact ⟨⟨⟨by show 0 ≤ t; omega, ht.2⟩, hb⟩, by show t ≠ 0; omega, by show t ≠ 1; omega⟩
  · rw [foldR]
    dsimp only
    rw [h, if_neg (by simp), foldR]
theorem resF_yes {c : Ctx} {m : Msg} : resF c (m, true, 0) = (c, [m], 0) := by unfold resF; rw [if_neg (by simp), if_pos rfl]
theorem says_field {c : Ctx} {m : Msg} (h : FieldR m) : Says c (fieldPut m).1 [m] c := by
  obtain ⟨h1, h2, h3⟩ := fieldPut_ok h
  have e : (fieldPut m).1 = (tput (m.kind - 5) (fieldsF m ++ encS m.subs)).1 := by unfold fieldPut; rw [if_pos (fieldR_iff.2 h)]
  rw [e]
  refine says_one (by omega) h2 ?_
  unfold oneR
  rw [if_neg (by omega), if_neg (by omega), if_pos (by omega), fieldG_back h, resF_yes]
theorem says_route {c : Ctx} {m : Msg} (h : RouteR m) : Says c (routePut m).1 [m] c := by
  obtain ⟨h1, h2⟩ := routePut_ok h
  have e : (routePut m).1 = (tput (if m.kind = 13 then 10 else 9) (headF m ++ encS m.subs)).1 := by unfold routePut; rw [if_pos (routeR_iff.2 h)]
  have ht : (if m.kind = 13 then (10 : Int) else 9) = 9 ∨ (if m.kind = 13 then (10 : Int) else 9) = 10 := by split <;> omega
  have hb := routeG_back h
  rw [e]
  generalize (if m.kind = 13 then (10 : Int) else 9) = t at *
  refine says_one (by omega) h2 ?_
  unfold oneR
  rw [if_neg (by omega), if_neg (by omega), if_neg (by omega), if_pos (by omega), hb, resF_yes]
theorem OpqR.eq {m : Msg} (h : OpqR m) : opaqueM m.type_ m.data = m := by
  have hx : bareOf m = some ⟨m.kind, 0, 0, [], 0, 0, [], 0, 0, [], 0, [], 0, 0, 0, 0, 0, 0, 0, [], [], [], m.type_, m.data, []⟩ := by
    have hk := h.kind
    unfold bareOf; rw [if_neg (by omega), if_neg (by omega), if_neg (by omega), if_neg (by omega), if_neg (by omega), if_neg (by omega), if_neg (by omega), if_neg (by omega), if_neg (by omega), if_neg (by omega), if_neg (by omega), if_neg (by omega), if_neg (by omega), if_pos hk]
  have hb := h.bare
  rw [bareB, hx] at hb
  have := eqB_true.1 hb
  rw [h.kind] at this
  exact this
theorem says_opq {c : Ctx} {m : Msg} (h : OpqR m) : Says c (tput m.type_ m.data).1 [m] c := by
  refine says_one (by have := h.ty; omega) (by have := h.len; omega) ?_
  have := h.ty
  unfold oneR
  rw [if_neg (by omega), if_neg (by omega), if_neg (by omega), if_neg (by omega), h.eq]
theorem says_other {c : Ctx} {m : Msg} (h : LeanR m) (hk : m.kind ≠ 11) : Says c (otherF m) [m] c := by
  unfold otherF
  cases h with
  | field h =>
    have := fieldB_kind (fieldR_iff.2 h)
    rw [if_neg (by omega), if_neg (by omega)]; exact says_field h
  | route h =>
    have := routeB_kind (routeR_iff.2 h)
    rw [if_pos this]; exact says_route h
  | upd h => exact absurd h.kind hk
  | opq h =>
    have := h.kind
    rw [if_neg (by omega), if_pos this]; exact says_opq h
theorem says_id {c : Ctx} {s : Bs} (h : s.length = 8) : Says c (idT s) [] (setId c s) := by
  refine says_one (by omega) (by unfold idD; simp; omega) ?_
  unfold oneR
  rw [if_neg (by omega), if_pos (by omega)]
  unfold stepC
  rw [if_pos rfl, idF_back h]
theorem hopD_len {a : Bs} (h : a.length ≤ 16) : (hopD a).length ≤ 255 := by
  unfold hopD; split
  · simp; omega
  split <;> simp <;> omega
theorem says_hop {c : Ctx} {a : Bs} {f : Int} (h : (f = 0 ∧ a.length = 4) ∨ (f = 1 ∧ a.length = 16)) : Says c (hopT a) [] (setN c f a) := by
  refine says_one (by omega) (hopD_len (by omega)) ?_
  unfold oneR
  rw [if_neg (by omega), if_pos (by omega)]
  unfold stepC
  rw [if_neg (by omega), if_pos rfl, hopF_back h]
theorem says_upd {c : Ctx} {m : Msg} {n : Nat} (hc : okC c) (h : UpdR m) (hn : n ≤ (bytesP m).length)
    (hk : n ≠ 0 → preC c m.ae ≠ [] ∧ ((preC c m.ae).drop (baseA m.ae).toNat).take n = (bytesP m).take n)
    (hf : m.metric ≠ 65535 → c.id = m.id ∧ nextC c (famE m.ae) = m.next) : Says c (updT m n) [m] (setP c m.ae m.prefix_) := by
  have hl := updD_len h n
  have hs := encS_small h.subs
  obtain ⟨_, _, _, h16, _, _⟩ := h.pre
  refine says_one (by omega) (by omega) ?_
  unfold oneR
  rw [if_neg (by omega), if_pos (by omega)]
  unfold stepC
  rw [if_neg (by omega), if_neg (by omega), if_pos rfl, updF_upd hc h hn hk hf]
theorem leadC_ok (c : Ctx) (m : Msg) : leadC c m ≠ 0 → preC c m.ae ≠ [] ∧ ((preC c m.ae).drop (baseA m.ae).toNat).take (leadC c m) = (bytesP m).take (leadC c m) := by
  intro h
  by_cases hq : preC c m.ae = []
  · unfold leadC at h; rw [if_pos hq] at h; exact absurd rfl h
  · refine ⟨hq, ?_⟩
    unfold leadC; rw [if_neg hq]; exact leadN_take _ _
theorem nextC_setN {c : Ctx} {f : Int} {a : Bs} (hf : f = 0 ∨ f = 1) : nextC (setN c f a) f = a := by rcases hf with rfl | rfl <;> rfl
theorem LeanR.upd_of {m : Msg} (h : LeanR m) (hk : m.kind = 11) : UpdR m := by
  cases h with
  | field h => have := fieldB_kind (fieldR_iff.2 h); omega
  | route h => have := routeB_kind (routeR_iff.2 h); omega
  | upd h => exact h
  | opq h => have := h.kind; omega
theorem says_update {c : Ctx} {m : Msg} {n : Nat} {i h : Bs} (hc : okC c) (hu : UpdR m) (hm : m.metric ≠ 65535) (hn : n ≤ (bytesP m).length)
    (hk : n ≠ 0 → preC c m.ae ≠ [] ∧ ((preC c m.ae).drop (baseA m.ae).toNat).take n = (bytesP m).take n)
    (hi : i = idT m.id ∨ (i = [] ∧ m.id = c.id)) (hh : (h = hopT m.next ∧ m.next ≠ []) ∨ (h = [] ∧ m.next = nextC c (famE m.ae))) :
    Says c ((i ++ h) ++ updT m n) [m] (setP (setN (setId c m.id) (famE m.ae) m.next) m.ae m.prefix_) := by
  obtain ⟨hf, hop⟩ := hu.fam hm
  have hid := (hu.near hm).2.1
  have hc1 := okC_setId hc hid
  have s1 : Says c i [] (setId c m.id) := by
    rcases hi with rfl | ⟨rfl, e⟩
    · exact says_id hid
    · rw [setId_same e]; exact says_nil c
  have hc2 : okC (setN (setId c m.id) (famE m.ae) m.next) ∧ Says (setId c m.id) h [] (setN (setId c m.id) (famE m.ae) m.next) := by
    rcases hh with ⟨rfl, e⟩ | ⟨rfl, e⟩
    · exact ⟨okC_setN hc1 (hop e), says_hop (hop e)⟩
    · have e' : m.next = nextC (setId c m.id) (famE m.ae) := e
      rw [setN_same hf e']; exact ⟨hc1, says_nil _⟩
  have s3 : Says (setN (setId c m.id) (famE m.ae) m.next) (updT m n) [m] _ := says_upd hc2.1 hu hn hk (fun _ => ⟨rfl, nextC_setN hf⟩)
  have := says_app (says_app s1 hc2.2) s3
  exact this
theorem putL_back {c : Ctx} {m : Msg} (hc : okC c) (h : LeanR m) (he : (putL c m).2.2 = 0) : Says c (putL c m).1 [m] (putL c m).2.1 := by
  unfold putL at he ⊢
  rw [leanR_iff.2 h] at he ⊢
  rw [if_neg (show ¬ (true = false) by simp)] at he ⊢
  by_cases hk : m.kind ≠ 11
  · rw [if_pos hk]; exact says_other h hk
  rw [if_neg hk] at he ⊢
  have hu := h.upd_of (by simpa using hk)
  by_cases hx : m.metric ≠ 65535 ∧ m.next = [] ∧ nextC c (famE m.ae) ≠ []
  · rw [if_pos hx] at he; exact absurd he (show ¬ ((9 : Int) = 0) by decide)
  rw [if_neg hx]
  have hle := leadC_le c m
  have hok := leadC_ok c m
  unfold headL knownL
  by_cases hm : m.metric = 65535
  · rw [if_pos hm, if_pos hm, List.nil_append]
    exact says_upd hc hu hle hok (fun q => absurd hm q)
  · rw [if_neg hm, if_neg hm]
    refine says_update hc hu hm hle hok ?_ ?_
    · by_cases hi : m.id = c.id
      · rw [if_pos hi]; exact .inr ⟨rfl, hi⟩
      · rw [if_neg hi]; exact .inl rfl
    · by_cases hnx : m.next = nextC c (famE m.ae)
      · rw [if_pos hnx]; exact .inr ⟨rfl, hnx⟩
      · rw [if_neg hnx]
        refine .inl ⟨rfl, fun e => ?_⟩
        exact hx ⟨hm, e, fun q => hnx (by rw [e, q])⟩
theorem putL_ok {c : Ctx} {m : Msg} (hc : okC c) (h : LeanR m) : okC (putL c m).2.1 := by
  unfold putL
  split
  · exact hc
  split
  · exact hc
  split
  · exact hc
  rename_i hk hx
  have hu := h.upd_of (by simpa using hk)
  have hk2 : okC (knownL c m) := by
    unfold knownL
    split
    · exact hc
    · rename_i hm
      obtain ⟨hf, hop⟩ := hu.fam hm
      have hc1 := okC_setId (i := m.id) hc (hu.near hm).2.1
      by_cases hne : m.next = []
      · have e : m.next = nextC (setId c m.id) (famE m.ae) := by
          rw [hne]
          show [] = nextC c (famE m.ae)
          cases hq : nextC c (famE m.ae) with
          | nil => rfl
          | cons a b => exact absurd ⟨hm, hne, by rw [hq]; simp⟩ hx
        rw [setN_same hf e]; exact hc1
      · exact okC_setN hc1 (hop hne)
  obtain ⟨a, b, c', d, e⟩ := inB_iff.1 hu.inn
  obtain ⟨h0, h1, h2, h3, h4, h5, h6⟩ := hk2
  show okC (setP (knownL c m) m.ae m.prefix_)
  unfold setP
  split
  · exact ⟨h0, h1, h2, h3, h4, h5, h6⟩
  · refine ⟨h0, ?_, ?_, ?_, h4, h5, h6⟩
    · dsimp only
      split
      · rename_i q; rw [q] at b; right; have : szA 1 = 4 := rfl; omega
      · exact h1
    · dsimp only
      split
      · rename_i q; rw [q] at b; right; have : szA 2 = 16 := rfl; omega
      · exact h2
    · dsimp only
      split
      · rename_i q; exact .inr (e q)
      · exact h3
end Go.VP
set_option linter.unusedVariables false
set_option linter.unusedSimpArgs false
set_option maxRecDepth 100000
namespace Go.VP
open Go Go.VI
noncomputable def outS : Ctx → List Msg → Option (Bs × Ctx)
  | c, [] => some ([], c)
  | c, m :: r => if (putL c m).2.2 ≠ 0 then none else (outS (putL c m).2.1 r).map fun x => ((putL c m).1 ++ x.1, x.2)
noncomputable def goO : Ctx → List Msg → Nat → Bs → Bs × Int × Int
  | _, [], _, b => ((wrapF b).1, 0, 0)
  | c, m :: r, i, b => if (putL c m).2.2 ≠ 0 then ([], i, (putL c m).2.2) else if 65531 < ((b ++ (putL c m).1).length : Int) then ([], i, 10) else goO (putL c m).2.1 r (i + 1) (b ++ (putL c m).1)
noncomputable def badL : List Msg → Nat → Option Nat
  | [], _ => none
  | m :: r, i => if leanB m = false then some i else badL r (i + 1)
noncomputable def encO (l : List Msg) : Bs × Int × Int := match badL l 0 with
  | some i => ([], i, 1)
  | none => goO c0 l 0 []
theorem badL_none : ∀ {l : List Msg} {i : Nat}, badL l i = none ↔ ∀ m ∈ l, leanB m = true
  | [], i => by simp [badL]
  | m :: r, i => by
    rw [badL]
    by_cases h : leanB m = false
    · rw [if_pos h]; simp [h]
    · rw [if_neg h, badL_none (l := r)]
      simp at h; simp [h]
theorem outS_says : ∀ {l : List Msg} {c d : Ctx} {s : Bs}, okC c → (∀ m ∈ l, LeanR m) → outS c l = some (s, d) → Says c s l d ∧ okC d
  | [], c, d, s, hc, hl, h => by rw [outS] at h; cases h; exact ⟨says_nil c, hc⟩
  | m :: r, c, d, s, hc, hl, h => by
    rw [outS] at h
    split at h
    · cases h
    · rename_i he
      have he : (putL c m).2.2 = 0 := by simpa using he
      cases ho : outS (putL c m).2.1 r with
      | none => rw [ho] at h; cases h
      | some x =>
        rw [ho] at h
        cases h
        have hR := hl m (List.mem_cons_self ..)
        obtain ⟨h1, h2⟩ := outS_says (putL_ok hc hR) (fun x hx => hl x (List.mem_cons_of_mem _ hx)) ho
        exact ⟨says_app (putL_back hc hR he) h1, h2⟩
theorem goO_of : ∀ {l : List Msg} {c d : Ctx} {s b : Bs} {i : Nat}, outS c l = some (s, d) → ((b ++ s).length : Int) ≤ 65531 → goO c l i b = ((wrapF (b ++ s)).1, 0, 0)
  | [], c, d, s, b, i, h, hl => by rw [outS] at h; cases h; rw [goO, List.append_nil]
  | m :: r, c, d, s, b, i, h, hl => by
    rw [outS] at h
    split at h
    · cases h
    · rename_i he
      cases ho : outS (putL c m).2.1 r with
      | none => rw [ho] at h; cases h
      | some x =>
        rw [ho] at h
        cases h
        rw [← List.append_assoc] at hl ⊢
        have hl2 : (((b ++ (putL c m).1) ++ x.1).length : Int) ≤ 65531 := hl
        rw [goO, if_neg he, if_neg (by simp only [List.length_append] at hl2 ⊢; omega)]
        exact goO_of ho hl2
theorem goO_inv : ∀ {l : List Msg} {c : Ctx} {b : Bs} {i : Nat}, (goO c l i b).2.2 = 0 → (b.length : Int) ≤ 65531 → ∃ s d, outS c l = some (s, d) ∧ ((b ++ s).length : Int) ≤ 65531
  | [], c, b, i, h, hb => ⟨[], c, rfl, by simpa using hb⟩
  | m :: r, c, b, i, h, hb => by
    rw [goO] at h
    split at h
    · rename_i he; exact absurd h he
    rename_i he
    split at h
    · exact absurd h (show ¬ ((10 : Int) = 0) by decide)
    rename_i hl
    obtain ⟨s, d, h1, h2⟩ := goO_inv h (by omega)
    exact ⟨(putL c m).1 ++ s, d, by rw [outS, if_neg he, h1]; rfl, by rw [← List.append_assoc]; exact h2⟩
theorem parse_out {l : List Msg} {s : Bs} {d : Ctx} (h : Says c0 s l d) (hs : (s.length : Int) ≤ 65531) : parseI (wrapF s).1 = (l, 0, 0) := by
  obtain ⟨w1, w2, w3, w4⟩ := body_wrap (s := s) (t := []) (by omega) (by simp; omega)
  rw [List.append_nil] at w1 w2
  obtain ⟨tl, h1, h2, h3⟩ := h 4
  have hf := h3 []
  unfold parseI
  rw [w1, w2, if_neg (by simp)]
  dsimp only
  rw [h1, spl_nil]
  dsimp only
  rw [hf]; rfl
theorem encO_ok {l : List Msg} (h : (encO l).2.2 = 0) : (∀ m ∈ l, leanB m = true) ∧ ∃ s d, outS c0 l = some (s, d) ∧ (s.length : Int) ≤ 65531 ∧ encO l = ((wrapF s).1, 0, 0) ∧ Says c0 s l d ∧ (encO l).1.length = 4 + s.length := by
  unfold encO at h ⊢
  cases hb : badL l 0 with
  | some i => rw [hb] at h; exact absurd h (show ¬ ((1 : Int) = 0) by decide)
  | none =>
    rw [hb] at h
    dsimp only at h ⊢
    have hl := badL_none.1 hb
    obtain ⟨s, d, h1, h2⟩ := goO_inv h (by simp)
    have h2' : (s.length : Int) ≤ 65531 := by simpa using h2
    have h3 := goO_of (i := 0) (b := []) h1 (by simpa using h2')
    rw [List.nil_append] at h3
    refine ⟨hl, s, d, h1, h2', h3, (outS_says okC_c0 (fun m hm => leanR_iff.1 (hl m hm)) h1).1, ?_⟩
    rw [h3]
    exact (body_wrap (s := s) (t := []) (by omega) (by simp; omega)).2.2.1
end Go.VP
set_option linter.unusedVariables false
set_option linter.unusedSimpArgs false
set_option maxRecDepth 100000
namespace Go.VP
open Go Go.VI
theorem putL_small (c : Ctx) (m : Msg) : (putL c m).1.length ≤ 800 := by
  have h1 := idT_len m.id; have h2 := hopT_len m.next; have h3 : (updT m (leadC c m)).length ≤ 257 := tput_len _ _
  have h4 : (otherF m).length ≤ 257 := by
    unfold otherF routePut fieldPut
    split
    · split
      · exact tput_len _ _
      · simp
    split
    · exact tput_len _ _
    split
    · exact tput_len _ _
    · simp
  have h5 : (headL c m).length ≤ 514 := by
    unfold headL
    split
    · simp
    · have a1 : (if m.id = c.id then [] else idT m.id).length ≤ 257 := by
        split
        · simp
        · exact h1
      have a2 : (if m.next = nextC c (famE m.ae) then [] else hopT m.next).length ≤ 257 := by
        split
        · simp
        · exact h2
      rw [List.length_append]; omega
  unfold putL
  split
  · simp
  split
  · dsimp only; omega
  split
  · simp
  · dsimp only; rw [List.length_append]; omega
theorem roenc1_loop {l : List Msg} {n : Nat} (hl : l.length ≤ 100000) (hg : ∀ m ∈ l, GoodL m) (hb : ∀ m ∈ l, leanB m = true) : ∀ (d k i : Nat) (c : Ctx) (b : Bs), i + d = l.length → d < k → okC c → b.length ≤ 65531 →
    L_ref25_Encode_1 n k l b c.prefix_c0 c.prefix_c1 c.prefix_c2 c.prefix_c3 c.next_c0 c.next_c1 c.id i = some (trip (goO c (l.drop i) i b), ()) := by
  intro d
  induction d with
  | zero =>
    intro k i c b hd hk hc hbl
    obtain ⟨k, rfl⟩ : ∃ q, k = q + 1 := ⟨k - 1, by omega⟩
    rw [L_ref25_Encode_1_eq, ifn (by omega), rwrap_is (by omega), List.drop_eq_nil_of_le (by omega)]; rfl
  | succ d ih =>
    intro k i c b hd hk hc hbl
    obtain ⟨k, rfl⟩ : ∃ q, k = q + 1 := ⟨k - 1, by omega⟩
    have hi : i < l.length := by omega
    have hp : 0 ≤ (i : Int) := by omega
    have hm := hb _ (List.getElem_mem hi)
    have hgm := hg _ (List.getElem_mem hi)
    have ih' := fun c b => ih k (i + 1) c b (by omega) (by omega)
    rw [show ((i + 1 : Nat) : Int) = (i : Int) + 1 by omega] at ih'
    rw [L_ref25_Encode_1_eq, ifd (by omega), if_pos hp, Int.toNat_natCast, bind_at hi, List.drop_eq_getElem_cons hi, goO]
    generalize l[i] = m at *
    have hlen := putL_small c m
    rw [show (S_api_Ctx.mk c.prefix_c0 c.prefix_c1 c.prefix_c2 c.prefix_c3 c.next_c0 c.next_c1 c.id) = c from rfl, rput_main hc hgm, Option.bind_some]
    dsimp only
    refine ne_step (fun he => by rw [if_pos he]) (fun he => ?_)
    rw [if_neg (show ¬ (putL c m).2.2 ≠ 0 from fun q => q he), if_pos (maxB_of (by omega))]
    refine dq_step' (fun q => by rw [if_pos q]) (fun q => ?_)
    rw [if_neg q, w64 (by omega) (by omega)]
    exact ih' _ _ (putL_ok hc (leanR_iff.1 hm)) (by omega)
theorem roenc0_loop {l : List Msg} {n : Nat} (hn : 1000000 ≤ n) (hl : l.length ≤ 100000) (hg : ∀ m ∈ l, GoodL m) : ∀ (d k i : Nat), i + d = l.length → d < k → (∀ m ∈ l.take i, leanB m = true) →
    L_ref25_Encode_0 n k l i = some (trip (match badL (l.drop i) i with | some j => ([], (j : Int), 1) | none => goO c0 l 0 []), ()) := by
  intro d
  induction d with
  | zero =>
    intro k i hd hk hq
    obtain ⟨k, rfl⟩ : ∃ q, k = q + 1 := ⟨k - 1, by omega⟩
    rw [List.take_of_length_le (by omega)] at hq
    have := roenc1_loop (n := n) hl hg hq l.length n 0 c0 [] (by omega) (by omega) okC_c0 (by simp)
    rw [L_ref25_Encode_0_eq, ifn (by omega), List.drop_eq_nil_of_le (by omega)]
    exact this
  | succ d ih =>
    intro k i hd hk hq
    obtain ⟨k, rfl⟩ : ∃ q, k = q + 1 := ⟨k - 1, by omega⟩
    have hi : i < l.length := by omega
    have hp : 0 ≤ (i : Int) := by omega
    have ih' := ih k (i + 1) (by omega) (by omega)
    rw [show ((i + 1 : Nat) : Int) = (i : Int) + 1 by omega] at ih'
    have hgm := hg _ (List.getElem_mem hi)
    rw [L_ref25_Encode_0_eq, ifd (by omega), if_pos hp, Int.toNat_natCast, bind_at hi, rlright_is hgm, Option.bind_some, List.drop_eq_getElem_cons hi, badL]
    dsimp only
    cases hm : leanB l[i] with
    | false => rw [ifnf, if_pos rfl]
    | true =>
      rw [ifnt, if_neg (show ¬ (true = false) by simp), w64 (by omega) (by omega)]
      refine ih' (fun x hx => ?_)
      rw [List.take_succ_eq_append_getElem hi, List.mem_append, List.mem_singleton] at hx
      rcases hx with hx | rfl
      · exact hq x hx
      · exact hm
theorem roenc_is {l : List Msg} (hl : l.length ≤ 100000) (hg : ∀ m ∈ l, GoodL m) : g_ref25_Encode (l, ()) = some (trip (encO l), ()) := by
  show h_ref25_Encode fuel (l, ()) = _
  rw [h_ref25_Encode_eq]
  exact roenc0_loop (n := fuel) (Nat.le_of_lt (fuel_ge (by omega))) hl hg l.length fuel 0 (by omega) (fuel_ge (by omega)) (fun m hm => by simp at hm)
end Go.VP
set_option linter.unusedVariables false
set_option linter.unusedSimpArgs false
set_option maxRecDepth 100000
namespace Go.VP
open Go Go.VI
def zeroB (s : Bs) : Bool := s.all (· == 0)
theorem zero_loop {n : Nat} {s : Bs} (hs : s.length ≤ 1000000000) : ∀ (d m i : Nat), i + d = s.length → d < m → L_octet_Zero_0 n m s i = some (((s.drop i).all (· == 0), ()), ()) := by
  intro d
  induction d with
  | zero =>
    intro m i hd hm
    obtain ⟨m, rfl⟩ : ∃ k, m = k + 1 := ⟨m - 1, by omega⟩
    rw [L_octet_Zero_0_eq, ifn (by omega), List.drop_eq_nil_of_le (by omega)]; rfl
  | succ d ih =>
    intro m i hd hm
    obtain ⟨m, rfl⟩ : ∃ k, m = k + 1 := ⟨m - 1, by omega⟩
    have ha : i < s.length := by omega
    have := ih m (i + 1) (by omega) (by omega)
    rw [show ((i + 1 : Nat) : Int) = (i : Int) + 1 by omega] at this
    rw [L_octet_Zero_0_eq, ifd (by omega), if_pos (by omega), Int.toNat_natCast, bind_at ha, w64 (by omega) (by omega), this, List.drop_eq_getElem_cons ha, List.all_cons]
    refine ne_step (fun h => ?_) (fun h => ?_)
    · have : (s[i] == 0) = false := by
        rw [beq_eq_false_iff_ne]; intro e; rw [e] at h; exact h rfl
      rw [this]; rfl
    · have : s[i] = 0 := u8_eq h
      rw [this]; simp
theorem zero_is {s : Bs} (hs : s.length ≤ 1000000000) : g_octet_Zero (s, ()) = some ((zeroB s, ()), ()) := by
  show h_octet_Zero fuel (s, ()) = _
  rw [h_octet_Zero_eq]
  exact zero_loop hs s.length fuel 0 (by omega) (fuel_ge (by omega))
abbrev z4 : Bs := [0, 0, 0, 0]
theorem zero4 {s : Bs} (h : s.length = 4) : zeroB s = true ↔ s = z4 := by
  match s, h with
  | [a, b, c, d], _ => simp [zeroB]
theorem zero8 {s t : Bs} (h : s.length = 4) (h' : t.length = 4) : zeroB (s ++ t) = true ↔ s = z4 ∧ t = z4 := by
  rw [← zero4 h, ← zero4 h']; simp [zeroB, List.all_append]
theorem nought_is : g_ref10_nought () = some ((z4, ()), ()) := g_ref10_nought_eq
def entF (s : Bs) : S_api_Entry := ⟨num (cut_ s 0 2), num (cut_ s 2 2), cut_ s 4 4, cut_ s 8 4, cut_ s 12 4, num (cut_ s 16 4)⟩
theorem rnum_ok {s : Bs} {p q n : Int} (w : WfC s p q) (h : 1 ≤ n) (h7 : n ≤ 7) (h2 : p + n ≤ q) : g_entry_reader_num (⟨s, p, q, false⟩, n, ()) = some ((num (cut_ s p n), ()), (⟨s, p + n, q, false⟩, ())) := by
  rw [g_entry_reader_num_eq]
  have := num_ok w h h7 h2
  unfold cu at this
  dsimp only
  rw [this]; rfl
theorem rfour_ok {s : Bs} {p q : Int} (w : WfC s p q) (h2 : p + 4 ≤ q) : g_entry_reader_four (⟨s, p, q, false⟩, ()) = some ((cut_ s p 4, ()), (⟨s, p + 4, q, false⟩, ())) := by
  rw [g_entry_reader_four_eq]
  have := text_ok (n := 4) w (by omega) h2
  unfold cu at this
  dsimp only
  rw [this]; rfl
theorem entGet_is {s : Bs} (h : s.length = 20) : g_entry_Get (s, ()) = some ((entF s, true, ()), ()) := by
  have w := WfC.whole (s := s) (by omega)
  rw [g_entry_Get_eq, if_neg (by simp [h]), new_is, Option.bind_some]
  dsimp only [cu]
  rw [rnum_ok w (by omega) (by omega) (by omega), Option.bind_some]
  dsimp only
  rw [rnum_ok (w.fwd (by omega) (by omega)) (by omega) (by omega) (by omega), Option.bind_some]
  dsimp only
  rw [rfour_ok ((w.fwd (n := 2) (by omega) (by omega)).fwd (by omega) (by omega)) (by omega), Option.bind_some]
  dsimp only
  rw [rfour_ok (((w.fwd (n := 2) (by omega) (by omega)).fwd (n := 2) (by omega) (by omega)).fwd (by omega) (by omega)) (by omega), Option.bind_some]
  dsimp only
  rw [rfour_ok ((((w.fwd (n := 2) (by omega) (by omega)).fwd (n := 2) (by omega) (by omega)).fwd (n := 4) (by omega) (by omega)).fwd (by omega) (by omega)) (by omega), Option.bind_some]
  dsimp only
  rw [rnum_ok (((((w.fwd (n := 2) (by omega) (by omega)).fwd (n := 2) (by omega) (by omega)).fwd (n := 4) (by omega) (by omega)).fwd (n := 4) (by omega) (by omega)).fwd (by omega) (by omega)) (by omega) (by omega) (by omega), Option.bind_some]
  rfl
def maskF (n : Int) : Bs := keepF [255, 255, 255, 255] n
theorem maskF_key : ∀ k : Fin 33, ([(u8of (IntKind.wrap .u8 (ishr .u32 (ishl .u32 4294967295 (IntKind.wrap .u64 (IntKind.wrap .i64 (32 - (k.val : Int))))) 24))), (u8of (IntKind.wrap .u8 (ishr .u32 (ishl .u32 4294967295 (IntKind.wrap .u64 (IntKind.wrap .i64 (32 - (k.val : Int))))) 16))), (u8of (IntKind.wrap .u8 (ishr .u32 (ishl .u32 4294967295 (IntKind.wrap .u64 (IntKind.wrap .i64 (32 - (k.val : Int))))) 8))), (u8of (IntKind.wrap .u8 (ishl .u32 4294967295 (IntKind.wrap .u64 (IntKind.wrap .i64 (32 - (k.val : Int)))))))] : Bs) = maskF k.val := by decide +kernel
theorem maskF_length (n : Int) : (maskF n).length = 4 := by unfold maskF; rw [keepF_length]; rfl
theorem fin33 {n : Int} (h : 0 ≤ n) (h' : n ≤ 32) : ∃ k : Fin 33, n = (k.val : Int) := ⟨⟨n.toNat, by omega⟩, by simp; omega⟩
theorem maskOf_is {n : Int} (h : 0 ≤ n) (h' : n ≤ 32) : g_mask_Of (n, ()) = some ((maskF n, true, ()), ()) := by
  obtain ⟨k, rfl⟩ := fin33 h h'
  rw [g_mask_Of_eq, ifn (by omega), ifn (by omega), if_pos (by rw [w64 (by omega) (by omega), wu64 (by omega) (by omega)]; omega), maskF_key k]
theorem maskOf_bad {n : Int} (h : n < 0 ∨ 32 < n) : g_mask_Of (n, ()) = some (([], false, ()), ()) := by
  rw [g_mask_Of_eq]
  by_cases h0 : n < 0
  · rw [ifd h0]
  · rw [ifn h0, ifd (by omega)]
theorem rmaskOf_is {n : Int} (h : 0 ≤ n) (h' : n ≤ 32) : g_ref05_Of (n, ()) = some ((maskF n, true, ()), ()) := by
  rw [g_ref05_Of_eq, ifn (by omega), ifn (by omega), rkeep_is (by simp), Option.bind_some]; rfl
def plenGo (s : Bs) : Nat → Nat → Int × Bool
  | 0, _ => (0, false)
  | d + 1, k => if maskF k = s then ((k : Int), true) else plenGo s d (k + 1)
def plenF (s : Bs) : Int × Bool := plenGo s 33 0
theorem plenGo_cases (s : Bs) : ∀ (d k : Nat), (∃ j : Nat, k ≤ j ∧ j < k + d ∧ plenGo s d k = ((j : Int), true) ∧ maskF j = s) ∨ (plenGo s d k = (0, false) ∧ ∀ j : Nat, k ≤ j → j < k + d → maskF j ≠ s)
  | 0, k => .inr ⟨rfl, fun j h1 h2 => by omega⟩
  | d + 1, k => by
    by_cases h : maskF k = s
    · exact .inl ⟨k, by omega, by omega, by rw [plenGo, if_pos h], h⟩
    · rcases plenGo_cases s d (k + 1) with ⟨j, h1, h2, h3, h4⟩ | ⟨h3, h4⟩
      · exact .inl ⟨j, by omega, by omega, by rw [plenGo, if_neg h, h3], h4⟩
      · refine .inr ⟨by rw [plenGo, if_neg h, h3], fun j h1 h2 => ?_⟩
        by_cases e : j = k
        · rw [e]; exact h
        · exact h4 j (by omega) (by omega)
theorem plenF_cases (s : Bs) : (∃ k : Fin 33, plenF s = ((k.val : Int), true) ∧ maskF k.val = s) ∨ (plenF s = (0, false) ∧ ∀ j : Nat, j < 33 → maskF j ≠ s) := by
  rcases plenGo_cases s 33 0 with ⟨j, _, h2, h3, h4⟩ | ⟨h3, h4⟩
  · exact .inl ⟨⟨j, by omega⟩, h3, h4⟩
  · exact .inr ⟨h3, fun j h => h4 j (by omega) (by omega)⟩
theorem plen_mask : ∀ k : Fin 33, plenF (maskF k.val) = ((k.val : Int), true) := by decide +kernel
theorem len32_pow : ∀ j : Fin 33, g_math_bits_Len32 (2 ^ j.val - 1, ()) = some (((j.val : Int), ()), ()) := by
  intro j
  rw [g_math_bits_Len32_eq]
  revert j
  decide +kernel
theorem u8wR (x : Int) : 0 ≤ IntKind.wrap .u8 x ∧ (IntKind.wrap .u8 x).toNat < 256 := by rw [wu8]; omega
theorem len32_any (x : Int) : ∃ r, g_math_bits_Len32 (x, ()) = some ((r, ()), ()) := by
  rw [g_math_bits_Len32_eq]
  split <;> split <;>
  · rw [if_pos (u8wR _).1, List.getElem?_eq_getElem (u8wR _).2, Option.bind_some]
    exact ⟨_, rfl⟩
theorem argKey : ∀ k : Fin 33, ibits .xor .u32 (4294967295) (ibits .or .u32 (ibits .or .u32 (ibits .or .u32 (ishl .u32 (IntKind.wrap .u32 ((((maskF k.val)[0]?.getD 0).toNat : Nat) : Int)) 24) (ishl .u32 (IntKind.wrap .u32 ((((maskF k.val)[1]?.getD 0).toNat : Nat) : Int)) 16)) (ishl .u32 (IntKind.wrap .u32 ((((maskF k.val)[2]?.getD 0).toNat : Nat) : Int)) 8)) (IntKind.wrap .u32 ((((maskF k.val)[3]?.getD 0).toNat : Nat) : Int))) = 2 ^ (32 - k.val) - 1 := by decide +kernel
theorem plen_is {s : Bs} (h : s.length = 4) : g_mask_Plen (s, ()) = some (((plenF s).1, (plenF s).2, ()), ()) := by
  rw [g_mask_Plen_eq, if_neg (by simp [h]), get_bt (i := 0) (by omega), Option.bind_some, get_bt (i := 1) (by omega), Option.bind_some, get_bt (i := 2) (by omega), Option.bind_some, get_bt (i := 3) (by omega), Option.bind_some]
  rcases plenF_cases s with ⟨k, e, rfl⟩ | ⟨e, hn⟩
  · rw [argKey k, g_math_bits_LeadingZeros32_eq]
    have := len32_pow ⟨32 - k.val, by omega⟩
    dsimp only at this
    rw [this, Option.bind_some, Option.bind_some]
    dsimp only
    have hk := k.isLt
    rw [w64 (by omega) (by omega), show (32 : Int) - ((32 - k.val : Nat) : Int) = k.val by omega, maskOf_is (by omega) (by omega), Option.bind_some]
    dsimp only
    rw [if_neg (by simp), e]
  · rw [g_math_bits_LeadingZeros32_eq]
    obtain ⟨r, hr⟩ := len32_any (ibits .xor .u32 (4294967295) (ibits .or .u32 (ibits .or .u32 (ibits .or .u32 (ishl .u32 (IntKind.wrap .u32 (((s[0]?.getD 0).toNat : Nat) : Int)) 24) (ishl .u32 (IntKind.wrap .u32 (((s[1]?.getD 0).toNat : Nat) : Int)) 16)) (ishl .u32 (IntKind.wrap .u32 (((s[2]?.getD 0).toNat : Nat) : Int)) 8)) (IntKind.wrap .u32 (((s[3]?.getD 0).toNat : Nat) : Int))))
    rw [hr, Option.bind_some, Option.bind_some]
    dsimp only
    generalize IntKind.wrap .i64 (32 - r) = x
    by_cases hx : x < 0 ∨ 32 < x
    · rw [maskOf_bad hx, Option.bind_some]
      dsimp only
      rw [if_pos (by cases s with | nil => simp at h | cons => rfl), e]
    · rw [maskOf_is (by omega) (by omega), Option.bind_some]
      dsimp only
      have : maskF x ≠ s := by
        have := hn x.toNat (by omega)
        rwa [show ((x.toNat : Nat) : Int) = x by omega] at this
      rw [if_pos (by simpa using this), e]
theorem plenF_ok {s : Bs} (h : (plenF s).2 = true) : 0 ≤ (plenF s).1 ∧ (plenF s).1 ≤ 32 ∧ maskF (plenF s).1 = s := by
  rcases plenF_cases s with ⟨k, e, hk⟩ | ⟨e, _⟩
  · rw [e]; have := k.isLt; exact ⟨by simp, by simp; omega, hk⟩
  · rw [e] at h; cases h
theorem plenF_maskF {n : Int} (h : 0 ≤ n) (h' : n ≤ 32) : plenF (maskF n) = (n, true) := by
  obtain ⟨k, rfl⟩ := fin33 h h'
  exact plen_mask k
end Go.VP
set_option linter.unusedVariables false
set_option linter.unusedSimpArgs false
set_option maxRecDepth 100000
namespace Go.VP
open Go Go.VI
def okR (m : Msg) : Prop := m.kind = 1 ∧ bareB m = true ∧ (m.cmd = 1 ∨ m.cmd = 2) ∧ (m.ver = 1 ∨ m.ver = 2) ∧ m.prefix_.length = 4 ∧ m.next.length = 4 ∧ (m.auth = [] ∨ (m.ver = 2 ∧ m.auth.length = 18)) ∧
  ((m.family = 0 ∧ m.cmd = 1 ∧ m.tag = 0 ∧ m.plen = 0 ∧ m.prefix_ = z4 ∧ m.next = z4 ∧ m.metric = 16) ∨
   (m.family = 2 ∧ 1 ≤ m.metric ∧ m.metric ≤ 16 ∧
     ((m.ver = 1 ∧ m.tag = 0 ∧ m.plen = 32 ∧ m.next = z4) ∨ (m.ver = 2 ∧ 0 ≤ m.tag ∧ m.tag ≤ 65535 ∧ 0 ≤ m.plen ∧ m.plen ≤ 32 ∧ cleanB m.prefix_ m.plen = true))))
open Classical in
noncomputable def rightR (m : Msg) : Bool := decide (okR m)
theorem rightR_true {m : Msg} : rightR m = true ↔ okR m := by unfold rightR; simp
structure RM (m : Msg) : Prop where
  tag : IntKind.has .i64 m.tag
  plen : IntKind.has .i64 m.plen
  list : m.list.length ≤ 1000000000
  subs : m.subs.length ≤ 1000000000
theorem dq_step {R : Type} {p : Prop} [Decidable p] {t f r : R} (h : p → t = r) (h' : ¬ p → f = r) : (if decide p = true then t else f) = r := by
  by_cases hp : p
  · rw [ifd hp]; exact h hp
  · rw [ifn hp]; exact h' hp
theorem nb_step {R : Type} {b : Bool} {t f r : R} (h : b = false → t = r) (h' : b = true → f = r) : (if (!b) = true then t else f) = r := by
  cases b
  · exact h rfl
  · exact h' rfl
theorem be_stepR {R : Type} {x y : Bs} {f t r : R} (heq : x = y → t = r) (hne : x ≠ y → f = r) : (if (x == y) = true then t else f) = r := by
  by_cases h : x = y
  · rw [if_pos (by simp [h])]; exact heq h
  · rw [if_neg (by simpa using h)]; exact hne h
theorem two_step {R : Type} {x a b : Int} {F V r : R} (h1 : ¬ (x = a ∨ x = b) → F = r) (h2 : (x = a ∨ x = b) → V = r) : (if (x != a) = true then (if (x != b) = true then F else V) else V) = r :=
  ne_step (fun ha => ne_step (fun hb => h1 (by omega)) (fun hb => h2 (.inr hb))) (fun ha => h2 (.inl ha))
theorem au_step {R : Type} {s : Bs} {v : Int} {F T r : R} (h1 : ¬ (s = [] ∨ (v ≠ 1 ∧ s.length = 18)) → F = r) (h2 : (s = [] ∨ (v ≠ 1 ∧ s.length = 18)) → T = r) : (if (!(s == ([] : Bs))) = true then (if (v == 1) = true then F else (if ((s.length : Int) != 18) = true then F else T)) else T) = r :=
  nq_step (fun ha => bq_step (fun hb => h1 (by grind)) (fun hb => ne_step (fun hc => h1 (by grind)) (fun hc => h2 (by grind)))) (fun ha => h2 (.inl ha))
theorem rau_step {R : Type} {s : Bs} {v : Int} {F T r : R} (h1 : ¬ (s = [] ∨ (v = 2 ∧ s.length = 18)) → F = r) (h2 : (s = [] ∨ (v = 2 ∧ s.length = 18)) → T = r) : (if (!(s == ([] : Bs))) = true then (if (v != 2) = true then F else (if ((s.length : Int) != 18) = true then F else T)) else T) = r :=
  nq_step (fun ha => ne_step (fun hb => h1 (by grind)) (fun hb => ne_step (fun hc => h1 (by grind)) (fun hc => h2 (by grind)))) (fun ha => h2 (.inl ha))
theorem pright4 {a : Bs} {n : Int} (h : a.length = 4) (hn : IntKind.has .i64 n) : g_prefix_Right (a, n, ()) = some ((decide (0 ≤ n ∧ n ≤ 32) && cleanB a n, ()), ()) := by
  rw [g_prefix_Right_eq, if_pos (by simp [h]), clean_is (by omega) hn, Option.bind_some]
  dsimp only
  refine dq_step (fun h0 => ?_) (fun h0 => ?_)
  · rw [w64 (by omega) (by omega)]
    refine dq_step (fun h1 => ?_) (fun h1 => ?_)
    · rw [decide_eq_true (by omega)]; rfl
    · rw [decide_eq_false (by omega)]; rfl
  · rw [decide_eq_false (by omega)]; rfl
theorem rpright4 {a : Bs} {n : Int} (h : a.length = 4) : g_ref04_Right (a, n, ()) = some ((decide (0 ≤ n ∧ n ≤ 32) && cleanB a n, ()), ()) := by
  rw [g_ref04_Right_eq, if_pos (by simp [h]), rclean_is (by omega), Option.bind_some]
  dsimp only
  refine dq_step (fun h0 => ?_) (fun h0 => ?_)
  · rw [w64 (by omega) (by omega)]
    refine dq_step (fun h1 => ?_) (fun h1 => ?_)
    · rw [decide_eq_true (by omega)]; rfl
    · rw [decide_eq_false (by omega)]; rfl
  · rw [decide_eq_false (by omega)]; rfl
theorem ripRight_is {m : Msg} (g : RM m) : g_rip_Right (m, ()) = some ((rightR m, ()), ()) := by
  have no : ¬ okR m → (some ((false, ()), ()) : Option ((Bool × Unit) × Unit)) = some ((rightR m, ()), ()) := fun h => by
    have : rightR m = false := by cases e : rightR m with | false => rfl | true => exact absurd (rightR_true.1 e) h
    rw [this]
  have yes : ∀ {b : Bool}, (b = true ↔ okR m) → (some ((b, ()), ()) : Option ((Bool × Unit) × Unit)) = some ((rightR m, ()), ()) := fun {b} h => by
    have : b = rightR m := by rw [Bool.eq_iff_iff, h, rightR_true]
    rw [this]
  rw [g_rip_Right_eq]
  refine ne_step (fun hk => no fun h => hk h.1) (fun hk => ?_)
  rw [bare_is, Option.bind_some]
  refine nb_step (fun hb => no fun h => by have := h.2.1; dsimp only at hb; rw [hb] at this; cases this) (fun hb => ?_)
  dsimp only at hb
  rw [g_rip_four_eq, Option.bind_some]
  refine nb_step (fun hp => no fun h => by have := h.2.2.2.2.1; dsimp only at hp; simp at hp; omega) (fun hp => ?_)
  have hp4 : m.prefix_.length = 4 := by simp at hp; omega
  rw [g_rip_four_eq, Option.bind_some]
  refine nb_step (fun hp => no fun h => by have := h.2.2.2.2.2.1; dsimp only at hp; simp at hp; omega) (fun hn => ?_)
  have hn4 : m.next.length = 4 := by simp at hn; omega
  refine two_step (fun hc => no fun h => hc h.2.2.1) (fun hc => ?_)
  refine two_step (fun hv => no fun h => hv h.2.2.2.1) (fun hv => ?_)
  refine au_step (fun ha => no fun h => ha (by have := h.2.2.2.2.2.2.1; grind)) (fun ha => ?_)
  have ha' : m.auth = [] ∨ (m.ver = 2 ∧ m.auth.length = 18) := by grind
  have z8 := zero8 hp4 hn4
  have zn := zero4 hn4
  refine bq_step (fun f0 => ?_) (fun f0 => ?_)
  · refine bq_step (fun c1 => ?_) (fun c1 => no (by grind [okR]))
    refine bq_step (fun t0 => ?_) (fun t0 => no (by grind [okR]))
    refine bq_step (fun p0 => ?_) (fun t0 => no (by grind [okR]))
    refine bq_step (fun m0 => ?_) (fun t0 => no (by grind [okR]))
    rw [if_pos (maxB_of (by omega)), zero_is (by simp; omega), Option.bind_some]
    exact yes (by rw [z8]; grind [okR])
  · refine ne_step (fun f2 => no (by grind [okR])) (fun f2 => ?_)
    refine dq_step (fun h1 => no (by grind [okR])) (fun h1 => ?_)
    refine dq_step (fun h2 => no (by grind [okR])) (fun h2 => ?_)
    refine bq_step (fun v1 => ?_) (fun v1 => ?_)
    · refine bq_step (fun t0 => ?_) (fun t0 => no (by grind [okR]))
      refine bq_step (fun p0 => ?_) (fun t0 => no (by grind [okR]))
      rw [zero_is (by omega), Option.bind_some]
      exact yes (by rw [zn]; grind [okR])
    · have ft := fits_is (k := 2) g.tag (by omega) (by omega)
      rw [show ((2 : Nat) : Int) = 2 from rfl] at ft
      rw [ft, Option.bind_some]
      dsimp only
      have hf : fitsB m.tag 2 = true ↔ 0 ≤ m.tag ∧ m.tag ≤ 65535 := by unfold fitsB; rw [decide_eq_true_eq]; omega
      cases hfb : fitsB m.tag 2 with
      | false => rw [iff_]; exact no (fun h => by
        have : ¬ (0 ≤ m.tag ∧ m.tag ≤ 65535) := by rw [← hf, hfb]; simp
        grind [okR])
      | true =>
        have := hf.1 hfb
        rw [ift, pright4 hp4 g.plen, Option.bind_some]
        exact yes (by rw [Bool.and_eq_true, decide_eq_true_eq]; grind [okR])
theorem rripRight_is {m : Msg} (g : RM m) : g_ref10_Right (m, ()) = some ((rightR m, ()), ()) := by
  have no : ¬ okR m → (some ((false, ()), ()) : Option ((Bool × Unit) × Unit)) = some ((rightR m, ()), ()) := fun h => by
    have : rightR m = false := by cases e : rightR m with | false => rfl | true => exact absurd (rightR_true.1 e) h
    rw [this]
  have yes : ∀ {b : Bool}, (b = true ↔ okR m) → (some ((b, ()), ()) : Option ((Bool × Unit) × Unit)) = some ((rightR m, ()), ()) := fun {b} h => by
    have : b = rightR m := by rw [Bool.eq_iff_iff, h, rightR_true]
    rw [this]
  rw [g_ref10_Right_eq]
  refine ne_step (fun hk => no fun h => hk h.1) (fun hk => ?_)
  rw [rbare_is g.list g.subs, Option.bind_some]
  refine nb_step (fun hb => no fun h => by have := h.2.1; dsimp only at hb; rw [hb] at this; cases this) (fun hb => ?_)
  dsimp only at hb
  refine dq_step (fun h1 => no (by grind [okR])) (fun c1 => ?_)
  refine dq_step (fun h1 => no (by grind [okR])) (fun c2 => ?_)
  refine dq_step (fun h1 => no (by grind [okR])) (fun v1 => ?_)
  refine dq_step (fun h1 => no (by grind [okR])) (fun v2 => ?_)
  refine ne_step (fun h1 => no (by grind [okR])) (fun hp => ?_)
  refine ne_step (fun h1 => no (by grind [okR])) (fun hn => ?_)
  have hp4 : m.prefix_.length = 4 := by omega
  have hn4 : m.next.length = 4 := by omega
  have hc : m.cmd = 1 ∨ m.cmd = 2 := by omega
  have hv : m.ver = 1 ∨ m.ver = 2 := by omega
  refine rau_step (fun ha => no fun h => ha h.2.2.2.2.2.2.1) (fun ha => ?_)
  rw [nought_is, Option.bind_some]
  refine bq_step (fun f0 => ?_) (fun f0 => ?_)
  · refine bq_step (fun c1 => ?_) (fun c1 => no (by grind [okR]))
    refine bq_step (fun t0 => ?_) (fun t0 => no (by grind [okR]))
    refine bq_step (fun p0 => ?_) (fun t0 => no (by grind [okR]))
    refine be_stepR (fun e1 => ?_) (fun t0 => no (by grind [okR]))
    rw [Option.bind_some]
    refine be_stepR (fun e1 => ?_) (fun t0 => no (by grind [okR]))
    exact yes (by rw [beq_iff_eq]; grind [okR])
  · refine ne_step (fun f2 => no (by grind [okR])) (fun f2 => ?_)
    refine dq_step (fun h1 => no (by grind [okR])) (fun h1 => ?_)
    refine dq_step (fun h2 => no (by grind [okR])) (fun h2 => ?_)
    refine bq_step (fun v1 => ?_) (fun v1 => ?_)
    · refine bq_step (fun t0 => ?_) (fun t0 => no (by grind [okR]))
      refine bq_step (fun p0 => ?_) (fun t0 => no (by grind [okR]))
      rw [Option.bind_some]
      exact yes (by rw [beq_iff_eq]; grind [okR])
    · refine dq_step (fun t0 => ?_) (fun t0 => no (by grind [okR]))
      refine dq_step (fun t0 => ?_) (fun t0 => no (by grind [okR]))
      rw [rpright4 hp4, Option.bind_some]
      exact yes (by rw [Bool.and_eq_true, decide_eq_true_eq]; grind [okR])
end Go.VP
set_option linter.unusedVariables false
set_option linter.unusedSimpArgs false
set_option maxRecDepth 100000
namespace Go.VP
open Go Go.VI
abbrev Ent := S_api_Entry
def routeM (cmd ver : Int) (says : Bs) (e : Ent) : Msg := ⟨1, cmd, ver, says, e.family, 0, e.addr, (if e.family = 0 then 0 else if ver = 1 then 32 else (plenF e.mask).1), e.tag, e.next, e.metric, [], 0, 0, 0, 0, 0, 0, 0, [], [], [], 0, [], []⟩
open Classical in
noncomputable def errR (cmd ver : Int) (says : Bs) (alone : Bool) (e : Ent) : Int :=
  if e.family = 0 then (if alone = true ∧ e.mask = z4 ∧ okR (routeM cmd ver says e) then 0 else 7)
  else if e.family ≠ 2 then 4
  else if ver = 1 then (if e.tag ≠ 0 ∨ e.mask ≠ z4 ∨ e.next ≠ z4 then 5 else if e.metric < 1 ∨ 16 < e.metric then 6 else 0)
  else if ¬ ((plenF e.mask).2 = true ∧ cleanB e.addr (plenF e.mask).1 = true) then 7
  else if e.metric < 1 ∨ 16 < e.metric then 6 else 0
theorem lf {x : Msg} {v E : Int} {M : Msg} {R : Type} {S : R} (h : E = v) (h0 : v ≠ 0) : ∃ m', (some ((x, v, ()), S) : Option ((Msg × Int × Unit) × R)) = some ((m', E, ()), S) ∧ (E = 0 → m' = M) := ⟨x, by rw [h], fun e => absurd (h.symm.trans e) h0⟩
theorem lf0 {x : Msg} {E : Int} {M : Msg} {R : Type} {S : R} (hx : x = M) (h : E = 0) : ∃ m', (some ((x, 0, ()), S) : Option ((Msg × Int × Unit) × R)) = some ((m', E, ()), S) ∧ (E = 0 → m' = M) := ⟨M, by rw [h, hx], fun _ => rfl⟩
structure EntOk (e : Ent) : Prop where
  fam : 0 ≤ e.family ∧ e.family ≤ 65535
  tag : 0 ≤ e.tag ∧ e.tag ≤ 65535
  addr : e.addr.length = 4
  mask : e.mask.length = 4
  next : e.next.length = 4
  metric : 0 ≤ e.metric ∧ e.metric ≤ 4294967295
theorem cut_len {s : Bs} {p n : Nat} (h : p + n ≤ s.length) : (cut_ s p n).length = n := by
  have := cut_length (s := s) (p := p) (n := n) (by omega) (by omega) (by omega)
  omega
theorem entF_ok {s : Bs} (h : s.length = 20) : EntOk (entF s) := by
  have h2 : ∀ p : Nat, p + 2 ≤ 20 → 0 ≤ num (cut_ s p 2) ∧ num (cut_ s p 2) ≤ 65535 := fun p hp => by
    have := num_rng (cut_ s p 2)
    have hl : (cut_ s p 2).length = 2 := cut_len (n := 2) (by omega)
    rw [hl] at this; omega
  have h4 := num_rng (cut_ s 16 4)
  have hl : (cut_ s 16 4).length = 4 := cut_len (p := 16) (n := 4) (by omega)
  rw [hl] at h4
  exact ⟨h2 0 (by omega), h2 2 (by omega), cut_len (p := 4) (n := 4) (by omega), cut_len (p := 8) (n := 4) (by omega), cut_len (p := 12) (n := 4) (by omega), by show 0 ≤ num (cut_ s 16 4) ∧ _; exact ⟨h4.1, by show num (cut_ s 16 4) ≤ _; omega⟩⟩
theorem routeM_rm {cmd ver : Int} {says : Bs} {e : Ent} (h : EntOk e) : RM (routeM cmd ver says e) := by
  have h1 := h.tag
  refine ⟨has64.2 (by show _ ≤ e.tag ∧ e.tag ≤ _; omega), ?_, by simp [routeM], by simp [routeM]⟩
  rw [has64]
  show _ ≤ (if e.family = 0 then (0 : Int) else if ver = 1 then 32 else (plenF e.mask).1) ∧ (if e.family = 0 then (0 : Int) else if ver = 1 then 32 else (plenF e.mask).1) ≤ _
  rcases plenF_cases e.mask with ⟨k, hk, _⟩ | ⟨hk, _⟩
  · rw [hk]; have := k.isLt; split
    · omega
    · split <;> simp <;> omega
  · rw [hk]; split
    · omega
    · split <;> simp
theorem route_is {cmd ver : Int} {says : Bs} {alone : Bool} {e : Ent} (h : EntOk e) :
    ∃ m', g_rip_reader_route (⟨cmd, ver, says, alone⟩, e, ()) = some ((m', errR cmd ver says alone e, ()), ((⟨cmd, ver, says, alone⟩ : S_rip_reader), ())) ∧ (errR cmd ver says alone e = 0 → m' = routeM cmd ver says e) := by
  have zm := zero4 h.mask
  have zz := zero8 h.mask h.next
  have rm := routeM_rm (cmd := cmd) (ver := ver) (says := says) h
  rw [g_rip_reader_route_eq]
  dsimp only
  by_cases f0 : e.family = 0
  · rw [if_pos (by simp [f0])]
    cases alone with
    | false => rw [ifnf]; exact lf (v := 7) (by unfold errR; rw [if_pos f0, if_neg (by simp)]) (by decide)
    | true =>
      rw [ifnt, zero_is (by have := h.mask; omega), Option.bind_some]
      dsimp only
      cases hz : zeroB e.mask with
      | false =>
        rw [ifnf]; exact lf (v := 7) (by unfold errR; rw [if_pos f0, if_neg (by rw [← zm, hz]; simp)]) (by decide)
      | true =>
        have hm := zm.1 hz
        have er : (⟨1, cmd, ver, says, e.family, 0, e.addr, 0, e.tag, e.next, e.metric, [], 0, 0, 0, 0, 0, 0, 0, [], [], [], 0, [], []⟩ : Msg) = routeM cmd ver says e := by unfold routeM; rw [if_pos f0]
        rw [ifnt, er, ripRight_is rm, Option.bind_some]
        dsimp only
        by_cases ho : okR (routeM cmd ver says e)
        · rw [rightR_true.2 ho, ifnt]
          exact lf0 rfl (by unfold errR; rw [if_pos f0, if_pos ⟨rfl, hm, ho⟩])
        · have : rightR (routeM cmd ver says e) = false := by cases e' : rightR (routeM cmd ver says e) with | false => rfl | true => exact absurd (rightR_true.1 e') ho
          rw [this, ifnf]
          exact lf (v := 7) (by unfold errR; rw [if_pos f0, if_neg (fun h => ho h.2.2)]) (by decide)
  · rw [if_neg (by simp [f0])]
    by_cases f2 : e.family = 2
    · rw [if_neg (by simp [f2])]
      by_cases v1 : ver = 1
      · subst v1
        rw [if_pos (by rfl)]
        by_cases t0 : e.tag = 0
        · rw [if_neg (by simp [t0]), if_pos (maxB_of (by have := h.mask; have := h.next; omega)), zero_is (by have := h.mask; have := h.next; simp; omega), Option.bind_some]
          dsimp only
          cases hz : zeroB (e.mask ++ e.next) with
          | false =>
            rw [ifnf]
            refine lf (v := 5) ?_ (by decide)
            unfold errR; rw [if_neg f0, if_neg (by omega), if_pos rfl, if_pos]
            by_cases hm : e.mask = z4
            · refine .inr (.inr fun hn => ?_); have := zz.2 ⟨hm, hn⟩; rw [hz] at this; cases this
            · exact .inr (.inl hm)
          | true =>
            have hm := zz.1 hz
            rw [ifnt]
            by_cases m1 : e.metric < 1
            · rw [ifd m1]; exact lf (v := 6) (by unfold errR; rw [if_neg f0, if_neg (by omega), if_pos rfl, if_neg (by grind), if_pos (.inl m1)]) (by decide)
            · rw [ifn m1]
              by_cases m2 : 16 < e.metric
              · rw [ifd m2]; exact lf (v := 6) (by unfold errR; rw [if_neg f0, if_neg (by omega), if_pos rfl, if_neg (by grind), if_pos (.inr m2)]) (by decide)
              · rw [ifn m2]; exact lf0 (by unfold routeM; rw [if_neg f0, if_pos rfl]) (by unfold errR; rw [if_neg f0, if_neg (by omega), if_pos rfl, if_neg (by grind), if_neg (by omega)])
        · rw [if_pos (by simp [t0])]
          exact lf (v := 5) (by unfold errR; rw [if_neg f0, if_neg (by omega), if_pos rfl, if_pos (.inl t0)]) (by decide)
      · rw [if_neg (by simp [v1]), plen_is h.mask, Option.bind_some]
        dsimp only
        cases hp : (plenF e.mask).2 with
        | false =>
          rw [ifnf]
          exact lf (v := 7) (by unfold errR; rw [if_neg f0, if_neg (by omega), if_neg v1, if_pos (by rw [hp]; simp)]) (by decide)
        | true =>
          have pr := plenF_ok hp
          rw [ifnt, pright4 h.addr (has64.2 (by omega)), Option.bind_some]
          dsimp only
          rw [decide_eq_true (show 0 ≤ (plenF e.mask).1 ∧ (plenF e.mask).1 ≤ 32 by omega), Bool.true_and]
          cases hc : cleanB e.addr (plenF e.mask).1 with
          | false =>
            rw [ifnf]
            exact lf (v := 7) (by unfold errR; rw [if_neg f0, if_neg (by omega), if_neg v1, if_pos (by rw [hc]; simp)]) (by decide)
          | true =>
            rw [ifnt]
            by_cases m1 : e.metric < 1
            · rw [ifd m1]; exact lf (v := 6) (by unfold errR; rw [if_neg f0, if_neg (by omega), if_neg v1, if_neg (by simp [hp, hc]), if_pos (.inl m1)]) (by decide)
            · rw [ifn m1]
              by_cases m2 : 16 < e.metric
              · rw [ifd m2]; exact lf (v := 6) (by unfold errR; rw [if_neg f0, if_neg (by omega), if_neg v1, if_neg (by simp [hp, hc]), if_pos (.inr m2)]) (by decide)
              · rw [ifn m2]; exact lf0 (by unfold routeM; rw [if_neg f0, if_neg v1]) (by unfold errR; rw [if_neg f0, if_neg (by omega), if_neg v1, if_neg (by simp [hp, hc]), if_neg (by omega)])
    · rw [if_pos (by simp [f2])]
      exact lf (v := 4) (by unfold errR; rw [if_neg f0, if_pos f2]) (by decide)
end Go.VP
set_option linter.unusedVariables false
set_option linter.unusedSimpArgs false
set_option maxRecDepth 100000
namespace Go.VP
open Go Go.VI
def headR (b : Bs) : Int × Int :=
  if b.length < 4 then (b.length, 2) else if ¬ (bt b 0 = 1 ∨ bt b 0 = 2) then (0, 4) else if ¬ (bt b 1 = 1 ∨ bt b 1 = 2) then (1, 4)
  else if ¬ (bt b 2 = 0 ∧ bt b 3 = 0) then (2, 5) else if ((b.length : Int) - 4) % 20 ≠ 0 then (b.length, 2) else if b.length = 4 then (b.length, 8) else if 504 < b.length then (504, 8) else (0, 0)
theorem headR_ok {b : Bs} (h : (headR b).2 = 0) : 24 ≤ b.length ∧ b.length ≤ 504 ∧ (bt b 0 = 1 ∨ bt b 0 = 2) ∧ (bt b 1 = 1 ∨ bt b 1 = 2) ∧ bt b 2 = 0 ∧ bt b 3 = 0 ∧ ((b.length : Int) - 4) % 20 = 0 := by
  unfold headR at h
  split at h
  · simp at h
  split at h
  · simp at h
  split at h
  · simp at h
  split at h
  · simp at h
  split at h
  · simp at h
  split at h
  · simp at h
  split at h
  · simp at h
  · rename_i h1 h2 h3 h4 h5 h6 h7
    exact ⟨by omega, by omega, by omega, by omega, by omega, by omega, by omega⟩
theorem four_of {b : Bs} (h : ¬ b.length < 4) : ∃ w x y z r, b = w :: x :: y :: z :: r := by
  match b, h with
  | w :: x :: y :: z :: r, _ => exact ⟨w, x, y, z, r, rfl⟩
  | [], h => simp at h
  | [_], h => simp at h
  | [_, _], h => simp at h
  | [_, _, _], h => simp at h
theorem head_is {b : Bs} (hb : b.length ≤ 100000) : g_rip_head (b, ()) = some (((headR b).1, (headR b).2, ()), ()) := by
  rw [g_rip_head_eq]
  by_cases h4 : b.length < 4
  · rw [ifd (by omega)]; unfold headR; rw [if_pos h4]
  obtain ⟨w, x, y, z, r, rfl⟩ := four_of h4
  rw [ifn (by omega)]
  have e0 : bt (w :: x :: y :: z :: r) 0 = (w.toNat : Int) := rfl
  have e1 : bt (w :: x :: y :: z :: r) 1 = (x.toNat : Int) := rfl
  have e2 : bt (w :: x :: y :: z :: r) 2 = (y.toNat : Int) := rfl
  have e3 : bt (w :: x :: y :: z :: r) 3 = (z.toNat : Int) := rfl
  simp only [List.getElem?_cons_zero, List.getElem?_cons_succ, Option.bind_some]
  refine two_step (fun h => ?_) (fun ha => ?_)
  · unfold headR; rw [if_neg h4, if_pos (by rw [e0]; exact h)]
  refine two_step (fun h => ?_) (fun hb' => ?_)
  · unfold headR; rw [if_neg h4, if_neg (by rw [e0]; exact fun c => c ha), if_pos (by rw [e1]; exact h)]
  rw [if_pos (by omega), show (List.take 4 (w :: x :: y :: z :: r)).drop 2 = [y, z] from rfl, zero_is (by simp), Option.bind_some]
  have hz : zeroB [y, z] = true ↔ ((y.toNat : Int) = 0 ∧ (z.toNat : Int) = 0) := by
    simp only [zeroB, List.all_cons, List.all_nil, Bool.and_true, Bool.and_eq_true, beq_iff_eq]
    constructor
    · rintro ⟨rfl, rfl⟩; exact ⟨rfl, rfl⟩
    · rintro ⟨h1, h2⟩; exact ⟨u8_eq h1, u8_eq h2⟩
  refine nb_step (fun h => ?_) (fun hzz => ?_)
  · unfold headR; rw [if_neg h4, if_neg (by rw [e0]; exact fun c => c ha), if_neg (by rw [e1]; exact fun c => c hb'), if_pos (by rw [e2, e3, ← hz]; dsimp only at h; rw [h]; simp)]
  have hzz' := hz.1 hzz
  have hL : (4 : Int) ≤ ((w :: x :: y :: z :: r).length : Int) := by omega
  generalize hLL : (w :: x :: y :: z :: r).length = L at *
  rw [w64 (by omega) (by omega), Int.tmod_eq_emod_of_nonneg (by omega), Int.tdiv_eq_ediv_of_nonneg (by omega), w64 (by omega) (by omega)]
  have hd : headR (w :: x :: y :: z :: r) = (if ((L : Int) - 4) % 20 ≠ 0 then ((L : Int), 2) else if L = 4 then ((L : Int), 8) else if 504 < L then (504, 8) else (0, 0)) := by
    unfold headR; rw [hLL, if_neg (by omega), if_neg (by rw [e0]; exact fun c => c ha), if_neg (by rw [e1]; exact fun c => c hb'), if_neg (by rw [e2, e3]; exact fun c => c hzz')]
  rw [hd]
  refine dq_step (fun h => ?_) (fun h5 => ?_)
  · rw [if_pos (by omega)]
  rw [if_neg (show ¬ ((L : Int) - 4) % 20 ≠ 0 by omega)]
  refine bq_step (fun h => ?_) (fun h6 => ?_)
  · rw [if_pos (by omega)]
  rw [if_neg (show ¬ L = 4 by omega)]
  refine dq_step (fun h => ?_) (fun h7 => ?_)
  · rw [if_pos (by omega)]
  · rw [if_neg (by omega)]
def goR (f : Ent → Msg × Int) (b : Bs) : Nat → Nat → List Msg → List Msg × Int × Int
  | 0, _, acc => (acc, 0, 0)
  | k + 1, at_, acc => if (f (entF (cut_ b at_ 20))).2 ≠ 0 then ([], (at_ : Int), (f (entF (cut_ b at_ 20))).2) else goR f b k (at_ + 20) (acc ++ [(f (entF (cut_ b at_ 20))).1])
noncomputable def rt (cmd ver : Int) (says : Bs) (alone : Bool) (e : Ent) : Msg × Int := (routeM cmd ver says e, errR cmd ver says alone e)
theorem msgBo : bo_api_Msg ≤ 100000 := Nat.le_of_ble_eq_true (by kernel_rfl)
theorem parse_loop {n : Nat} {b : Bs} {cmd ver : Int} {says : Bs} {alone : Bool} (hb : b.length ≤ 100000) : ∀ (k m at_ : Nat) (acc : List Msg), at_ + 20 * k = b.length → k < m → acc.length + k ≤ 10000 →
    L_rip_Parse_0 n m b at_ acc cmd ver says alone = some (((goR (rt cmd ver says alone) b k at_ acc).1, (goR (rt cmd ver says alone) b k at_ acc).2.1, (goR (rt cmd ver says alone) b k at_ acc).2.2, ()), ()) := by
  intro k
  induction k with
  | zero =>
    intro m at_ acc h hm ha
    obtain ⟨m, rfl⟩ : ∃ k, m = k + 1 := ⟨m - 1, by omega⟩
    rw [L_rip_Parse_0_eq, ifn (by omega)]; rfl
  | succ k ih =>
    intro m at_ acc h hm ha
    obtain ⟨m, rfl⟩ : ∃ k, m = k + 1 := ⟨m - 1, by omega⟩
    have hl : (cut_ b at_ 20).length = 20 := cut_len (n := 20) (by omega)
    obtain ⟨m', er, hm'⟩ := route_is (cmd := cmd) (ver := ver) (says := says) (alone := alone) (entF_ok hl)
    rw [L_rip_Parse_0_eq, ifd (by omega), w64 (by omega) (by omega), if_pos (by omega)]
    rw [show (List.take ((at_ : Int) + 20).toNat b).drop ((at_ : Int)).toNat = cut_ b at_ 20 from rfl, entGet_is hl, Option.bind_some]
    dsimp only
    rw [er, Option.bind_some]
    dsimp only
    refine ne_step (fun he => ?_) (fun he => ?_)
    · rw [goR, if_pos (show (rt cmd ver says alone (entF (cut_ b at_ 20))).2 ≠ 0 from he)]; rfl
    · have := ih m (at_ + 20) (acc ++ [m']) (by omega) (by omega) (by simp; omega)
      rw [show ((at_ + 20 : Nat) : Int) = (at_ : Int) + 20 by omega] at this
      have hbo := msgBo
      rw [if_pos (roomB_of (by rw [show (acc.length + [m'].length) = acc.length + 1 from rfl]; exact Nat.le_trans (Nat.mul_le_mul (show acc.length + 1 ≤ 10000 by omega) hbo) (by decide))), this, goR, if_neg (show ¬ (rt cmd ver says alone (entF (cut_ b at_ 20))).2 ≠ 0 from fun c => c he), hm' he]; rfl
def authB (b : Bs) : Bool := b.take 2 == [255, 255]
theorem auth_is {s : Bs} (h : s.length = 20) : g_auth_Get (s, ()) = some (((if authB s = true then s.drop 2 else []), authB s, ()), ()) := by
  rw [g_auth_Get_eq, g_strings_CutPrefix_eq, g_internal_stringslite_CutPrefix_eq, g_internal_stringslite_HasPrefix_eq]
  rw [ifd (by simp; omega), if_pos (by simp; omega), Option.bind_some]
  rw [show (([255, 255] : Bs).length : Int).toNat = 2 from rfl]
  cases ha : authB s with
  | false =>
    have : (s.take 2 == [255, 255]) = false := ha
    rw [this]; rfl
  | true =>
    have : (s.take 2 == [255, 255]) = true := ha
    rw [this]
    dsimp only
    rw [ifnt, if_pos (by simp; omega), Option.bind_some, Option.bind_some]
    dsimp only
    rw [ifnt, if_neg (by simp; omega), if_pos rfl]
noncomputable def parseR (b : Bs) : List Msg × Int × Int :=
  if (headR b).2 ≠ 0 then ([], (headR b).1, (headR b).2)
  else if bt b 1 = 2 ∧ authB (cut_ b 4 20) = true then
    (if b.length = 24 then ([], 24, 8) else goR (rt (bt b 0) (bt b 1) ((cut_ b 4 20).drop 2) (decide (b.length = 44))) b ((b.length - 24) / 20) 24 [])
  else goR (rt (bt b 0) (bt b 1) [] (decide (b.length = 24))) b ((b.length - 4) / 20) 4 []
theorem beq_dec (a c : Nat) : (((a : Int) == (c : Int)) : Bool) = decide (a = c) := by
  rw [Bool.eq_iff_iff, beq_iff_eq, decide_eq_true_eq]; omega
theorem parse_is {b : Bs} (hb : b.length ≤ 100000) : g_rip_Parse (b, ()) = some (((parseR b).1, (parseR b).2.1, (parseR b).2.2, ()), ()) := by
  show h_rip_Parse fuel (b, ()) = _
  rw [h_rip_Parse_eq, head_is hb, Option.bind_some]
  dsimp only
  refine ne_step (fun he => ?_) (fun he => ?_)
  · unfold parseR; rw [if_pos he]
  obtain ⟨h1, h2, h3, h4, _, _, h5⟩ := headR_ok he
  have hl : (cut_ b 4 20).length = 20 := cut_len (p := 4) (n := 20) (by omega)
  rw [get_bt (i := 0) (by omega), Option.bind_some, get_bt (i := 1) (by omega), Option.bind_some, if_pos (by omega), show (List.take 24 b).drop 4 = cut_ b 4 20 from rfl, auth_is hl, Option.bind_some, w64n, w64n]
  have e0 : bt b 0 = (((b[0]?.getD 0).toNat : Nat) : Int) := rfl
  have e1 : bt b 1 = (((b[1]?.getD 0).toNat : Nat) : Int) := rfl
  rw [← e0, ← e1]
  have L4 := parse_loop (n := fuel) (cmd := bt b 0) (ver := bt b 1) (says := []) (alone := decide (b.length = 24)) hb ((b.length - 4) / 20) fuel 4 [] (by omega) (fuel_ge (by omega)) (by simp; omega)
  have no : ¬ (bt b 1 = 2 ∧ authB (cut_ b 4 20) = true) → (if ((4 : Int) == (b.length : Int)) = true then (some (([], 4, 8, ()), ()) : Option ((List Msg × Int × Int × Unit) × Unit)) else (L_rip_Parse_0 fuel fuel b 4 [] (bt b 0) (bt b 1) ([] : List UInt8) ((b.length : Int) == 24))) = some (((parseR b).1, (parseR b).2.1, (parseR b).2.2, ()), ()) := fun hn => by
    rw [if_neg (by simp; omega), show (((b.length : Int) == 24) : Bool) = decide (b.length = 24) from beq_dec _ 24, show (4 : Int) = ((4 : Nat) : Int) from rfl, L4]
    unfold parseR; rw [if_neg (fun c => c he), if_neg hn]
  dsimp only
  cases ha : authB (cut_ b 4 20) with
  | false => rw [iff_]; exact no (by rw [ha]; simp)
  | true =>
    rw [ift]
    refine bq_step (fun hv => ?_) (fun hv => no (fun c => hv c.1))
    have hp : parseR b = (if b.length = 24 then ([], 24, 8) else goR (rt (bt b 0) (bt b 1) ((cut_ b 4 20).drop 2) (decide (b.length = 44))) b ((b.length - 24) / 20) 24 []) := by
      unfold parseR; rw [if_neg (fun c => c he), if_pos ⟨hv, ha⟩]
    rw [hp]
    refine bq_step (fun hq => ?_) (fun hq => ?_)
    · rw [if_pos (by omega)]
    · have L24 := parse_loop (n := fuel) (cmd := bt b 0) (ver := bt b 1) (says := (cut_ b 4 20).drop 2) (alone := decide (b.length = 44)) hb ((b.length - 24) / 20) fuel 24 [] (by omega) (fuel_ge (by omega)) (by simp; omega)
      rw [ift, if_neg (show ¬ b.length = 24 by omega), show (((b.length : Int) == 44) : Bool) = decide (b.length = 44) from beq_dec _ 44, show (24 : Int) = ((24 : Nat) : Int) from rfl, L24]
end Go.VP
set_option linter.unusedVariables false
set_option linter.unusedSimpArgs false
set_option maxRecDepth 100000
namespace Go.VP
open Go Go.VI
def entB (e : Ent) : Bs := be 2 e.family ++ be 2 e.tag ++ e.addr ++ e.mask ++ e.next ++ be 4 e.metric
theorem fit2 {n : Int} (h : 0 ≤ n ∧ n ≤ 65535) : fitsB n 2 = true := by unfold fitsB; rw [decide_eq_true_eq]; omega
theorem fit4 {n : Int} (h : 0 ≤ n ∧ n ≤ 4294967295) : fitsB n 4 = true := by unfold fitsB; rw [decide_eq_true_eq]; omega
theorem oput1 {n : Int} {k : Nat} (hf : fitsB n k = true) : oput n k = (be k n, true) := by unfold oput; rw [if_pos hf]
theorem rentPut_is {e : Ent} (h : EntOk e) : g_ref08_Put (e, ()) = some ((entB e, true, ()), ()) := by
  have h1 := h.addr; have h2 := h.mask; have h3 := h.next; have h4 := h.fam; have h5 := h.tag; have h6 := h.metric
  have hf : IntKind.has .i64 e.family := has64.2 (by omega)
  have ht : IntKind.has .i64 e.tag := has64.2 (by omega)
  have hm : IntKind.has .i64 e.metric := has64.2 (by omega)
  have b1 := rput_is (k := 2) hf (by omega) (by omega)
  have b2 := rput_is (k := 2) ht (by omega) (by omega)
  have b3 := rput_is (k := 4) hm (by omega) (by omega)
  rw [oput1 (fit2 h4)] at b1; rw [oput1 (fit2 h5)] at b2; rw [oput1 (fit4 h6)] at b3
  rw [show ((2 : Nat) : Int) = 2 from rfl] at *
  rw [show ((4 : Nat) : Int) = 4 from rfl] at *
  rw [g_ref08_Put_eq, b1, Option.bind_some, b2, Option.bind_some, b3, Option.bind_some]
  dsimp only
  rw [ifnt, ifnt, ifnt, if_neg (by simp; omega), if_neg (by simp; omega), if_neg (by simp; omega)]
  have l2 := be_length 2
  have l4 := be_length 4
  rw [if_pos (maxB_of (by simp [l2])), if_pos (maxB_of (by simp [l2, h1])), if_pos (maxB_of (by simp [l2, h1, h2])), if_pos (maxB_of (by simp [l2, h1, h2, h3])), if_pos (maxB_of (by simp [l2, l4, h1, h2, h3]))]
  rfl
def entM (m : Msg) : Ent := ⟨m.family, m.tag, m.prefix_, (if m.family = 2 ∧ m.ver = 2 then maskF m.plen else z4), m.next, m.metric⟩
def lineF (m : Msg) : Bs := entB (entM m)
theorem entM_ok {m : Msg} (h : okR m) : EntOk (entM m) := by
  obtain ⟨_, _, _, _, hp, hn, _, h⟩ := h
  refine ⟨?_, ?_, hp, ?_, hn, ?_⟩
  · show 0 ≤ m.family ∧ m.family ≤ 65535; omega
  · show 0 ≤ m.tag ∧ m.tag ≤ 65535; omega
  · unfold entM; dsimp only; split
    · exact maskF_length _
    · rfl
  · show 0 ≤ m.metric ∧ m.metric ≤ 4294967295; omega
theorem lineF_length {m : Msg} (h : okR m) : (lineF m).length = 20 := by
  have g := entM_ok h
  unfold lineF entB
  have h1 := g.addr; have h2 := g.mask; have h3 := g.next
  simp [be_length, h1, h2, h3]
theorem rline_is {m : Msg} (h : okR m) : g_ref10_line (m, ()) = some ((lineF m, ()), ()) := by
  have g := rentPut_is (entM_ok h)
  rw [g_ref10_line_eq, nought_is, Option.bind_some]
  refine bq_step (fun f2 => bq_step (fun v2 => ?_) (fun v2 => ?_)) (fun f2 => ?_)
  · have hp : 0 ≤ m.plen ∧ m.plen ≤ 32 := by obtain ⟨_, _, _, _, _, _, _, h⟩ := h; omega
    rw [rmaskOf_is hp.1 hp.2, Option.bind_some]
    have e : entM m = ⟨m.family, m.tag, m.prefix_, maskF m.plen, m.next, m.metric⟩ := by unfold entM; rw [if_pos ⟨f2, v2⟩]
    rw [e] at g
    dsimp only
    rw [g, Option.bind_some, ← e]; rfl
  · have e : entM m = ⟨m.family, m.tag, m.prefix_, z4, m.next, m.metric⟩ := by unfold entM; rw [if_neg (fun c => v2 c.2)]
    rw [e] at g
    dsimp only
    rw [g, Option.bind_some, ← e]; rfl
  · have e : entM m = ⟨m.family, m.tag, m.prefix_, z4, m.next, m.metric⟩ := by unfold entM; rw [if_neg (fun c => f2 c.1)]
    rw [e] at g
    dsimp only
    rw [g, Option.bind_some, ← e]; rfl
def togP (f m : Msg) : Prop := m.cmd = f.cmd ∧ m.ver = f.ver ∧ m.auth = f.auth ∧ m.family ≠ 0 ∧ f.family ≠ 0
instance (f m : Msg) : Decidable (togP f m) := by unfold togP; infer_instance
def encGo (f : Msg) (most : Int) : List Msg → Nat → Bs → Bs × Int × Int
  | [], _, acc => (acc, 0, 0)
  | m :: r, i, acc => if (i : Int) = most then ([], (i : Int), 8) else if 0 < i ∧ ¬ togP f m then ([], (i : Int), 7) else encGo f most r (i + 1) (acc ++ lineF m)
theorem renc1_loop {n : Nat} {l : List Msg} {f : Msg} {most : Int} (hf : l[0]? = some f) (hok : ∀ m ∈ l, okR m) (hl : l.length ≤ 1000) (hmost : 0 ≤ most) : ∀ (d m i : Nat) (acc : Bs), i + d = l.length → d < m → (i : Int) ≤ most → acc.length ≤ 1000 + 20 * i →
    L_ref10_Encode_1 n m l f most acc i = some (((encGo f most (l.drop i) i acc).1, (encGo f most (l.drop i) i acc).2.1, (encGo f most (l.drop i) i acc).2.2, ()), ()) := by
  intro d
  induction d with
  | zero =>
    intro m i acc hd hm hmo ha
    obtain ⟨m, rfl⟩ : ∃ k, m = k + 1 := ⟨m - 1, by omega⟩
    rw [L_ref10_Encode_1_eq, ifn (by omega), List.drop_eq_nil_of_le (by omega)]; rfl
  | succ d ih =>
    intro m i acc hd hm hmo ha
    obtain ⟨m, rfl⟩ : ∃ k, m = k + 1 := ⟨m - 1, by omega⟩
    have hi : i < l.length := by omega
    have ho := hok _ (List.getElem_mem hi)
    rw [L_ref10_Encode_1_eq, ifd (by omega), List.drop_eq_getElem_cons hi, encGo]
    refine dq_step (fun h => ?_) (fun h => ?_)
    · rw [if_pos (show (i : Int) = most by omega)]
    have := ih m (i + 1) (acc ++ lineF l[i]) (by omega) (by omega) (by omega) (by simp [lineF_length ho]; omega)
    rw [show ((i + 1 : Nat) : Int) = (i : Int) + 1 by omega] at this
    rw [if_neg (show ¬ (i : Int) = most by omega)]
    have hp : 0 ≤ (i : Int) := by omega
    have hfi : i = 0 → l[i] = f := fun h0 => by
      subst h0
      rw [List.getElem?_eq_getElem hi] at hf; exact Option.some.inj hf
    simp only [if_pos hp, Int.toNat_natCast, List.getElem?_eq_getElem hi, Option.bind_some, rline_is ho]
    rw [if_pos (maxB_of (by rw [lineF_length ho]; omega)), w64 (by omega) (by omega), this]
    have key : ¬ togP f l[i] → 0 < i → (some (([], (i : Int), 7, ()), ()) : Option ((Bs × Int × Int × Unit) × Unit)) = some (((if 0 < i ∧ ¬ togP f l[i] then ([], (i : Int), 7) else encGo f most (List.drop (i + 1) l) (i + 1) (acc ++ lineF l[i])).1, (if 0 < i ∧ ¬ togP f l[i] then ([], (i : Int), 7) else encGo f most (List.drop (i + 1) l) (i + 1) (acc ++ lineF l[i])).2.1, (if 0 < i ∧ ¬ togP f l[i] then ([], (i : Int), 7) else encGo f most (List.drop (i + 1) l) (i + 1) (acc ++ lineF l[i])).2.2, ()), ()) := fun h h0 => by
      rw [if_pos ⟨h0, h⟩]
    have pos : ∀ {P : Prop}, ¬ P → (i = 0 → P) → 0 < i := fun {P} h h' => by
      rcases Nat.eq_zero_or_pos i with h0 | h0
      · exact absurd (h' h0) h
      · exact h0
    refine ne_step (fun hc => ?_) (fun hc => ?_)
    · exact key (fun c => hc c.1) (pos hc (fun h0 => by rw [hfi h0]))
    refine ne_step (fun hv => ?_) (fun hv => ?_)
    · exact key (fun c => hv c.2.1) (pos hv (fun h0 => by rw [hfi h0]))
    refine nq_step (fun ha => ?_) (fun ha => ?_)
    · exact key (fun c => ha c.2.2.1) (pos ha (fun h0 => by rw [hfi h0]))
    refine dq_step (fun h0 => ?_) (fun h0 => ?_)
    · refine bq_step (fun h1 => key (fun c => c.2.2.2.2 h1) (by omega)) (fun h1 => ?_)
      refine bq_step (fun h2 => key (fun c => c.2.2.2.1 h2) (by omega)) (fun h2 => ?_)
      rw [if_neg (fun c => c.2 ⟨hc, hv, ha, h2, h1⟩)]
    · rw [if_neg (fun c => h0 (by omega))]
open Classical in
noncomputable def badR : List Msg → Nat → Option Nat
  | [], _ => none
  | m :: r, i => if okR m then badR r (i + 1) else some i
def mostR (f : Msg) : Int := if f.auth = [] then 25 else 24
def headE (f : Msg) : Bs := [u8of (f.cmd % 256), u8of (f.ver % 256), 0, 0] ++ (if f.auth = [] then [] else [255, 255] ++ f.auth)
noncomputable def encR (l : List Msg) : Bs × Int × Int := match badR l 0 with
  | some i => ([], (i : Int), 1)
  | none => match l with
    | [] => ([], 0, 8)
    | f :: _ => encGo f (mostR f) l 0 (headE f)
theorem badR_none : ∀ {l : List Msg} {i : Nat}, badR l i = none → ∀ m ∈ l, okR m
  | [], _, _, m, hm => by cases hm
  | x :: r, i, h, m, hm => by
    unfold badR at h
    split at h
    · rename_i hx
      rcases List.mem_cons.1 hm with rfl | hm
      · exact hx
      · exact badR_none h m hm
    · cases h
theorem badR_ok : ∀ {l : List Msg} {i : Nat}, (∀ m ∈ l, okR m) → badR l i = none
  | [], _, _ => rfl
  | x :: r, i, h => by
    unfold badR; rw [if_pos (h x (by simp))]; exact badR_ok (fun m hm => h m (by simp [hm]))
theorem headE_length {f : Msg} (h : okR f) : (headE f).length = if f.auth = [] then 4 else 24 := by
  obtain ⟨_, _, _, _, _, _, ha, _⟩ := h
  unfold headE
  by_cases e : f.auth = []
  · rw [if_pos e, if_pos e]; rfl
  · rw [if_neg e, if_neg e]
    have : f.auth.length = 18 := by rcases ha with h | h; exact absurd h e; exact h.2
    simp [this]
theorem renc_is {l : List Msg} (g : ∀ m ∈ l, RM m) (hl : l.length ≤ 1000) : g_ref10_Encode (l, ()) = some (((encR l).1, (encR l).2.1, (encR l).2.2, ()), ()) := by
  show h_ref10_Encode fuel (l, ()) = _
  rw [h_ref10_Encode_eq]
  have main : ∀ (d m i : Nat), i + d = l.length → d < m → badR l 0 = badR (l.drop i) i → L_ref10_Encode_0 fuel m l i = some (((encR l).1, (encR l).2.1, (encR l).2.2, ()), ()) := by
    intro d
    induction d with
    | zero =>
      intro m i hd hm hb
      obtain ⟨m, rfl⟩ : ∃ k, m = k + 1 := ⟨m - 1, by omega⟩
      rw [List.drop_eq_nil_of_le (by omega)] at hb
      have hn : badR l 0 = none := hb
      have hok := badR_none hn
      rw [L_ref10_Encode_0_eq, ifn (by omega)]
      cases l with
      | nil => rfl
      | cons f r =>
        have hf := hok f (by simp)
        have he : encR (f :: r) = encGo f (mostR f) (f :: r) 0 (headE f) := by unfold encR; rw [hn]
        have hc : 0 ≤ f.cmd ∧ f.cmd < 256 := by obtain ⟨_, _, hc, _⟩ := hf; omega
        have hv : 0 ≤ f.ver ∧ f.ver < 256 := by obtain ⟨_, _, _, hv, _⟩ := hf; omega
        have r1 := rof_is (n := f.cmd) (k := 1) (has64.2 (by omega)) (by omega) (by omega)
        have r2 := rof_is (n := f.ver) (k := 1) (has64.2 (by omega)) (by omega) (by omega)
        rw [oput1 (by unfold fitsB; rw [decide_eq_true_eq]; omega)] at r1 r2
        rw [show ((1 : Nat) : Int) = 1 from rfl] at r1 r2
        rw [he, if_neg (by simp; omega)]
        simp only [List.getElem?_cons_zero, Option.bind_some, r1, r2]
        rw [show be 1 f.cmd = [u8of (f.cmd % 256)] from rfl, show be 1 f.ver = [u8of (f.ver % 256)] from rfl]
        rw [if_pos (maxB_of (by simp)), if_pos (maxB_of (by simp))]
        have L := fun (most : Int) (acc : Bs) (h : acc.length ≤ 1000) (h0 : 0 ≤ most) => renc1_loop (n := fuel) (f := f) (most := most) (l := f :: r) rfl hok hl h0 (f :: r).length fuel 0 acc (by omega) (fuel_ge (by omega)) (by omega) (by omega)
        by_cases ha : f.auth = []
        · have e1 : headE f = ([u8of (f.cmd % 256)] ++ [u8of (f.ver % 256)]) ++ [0, 0] := by unfold headE; rw [if_pos ha]; rfl
          have e2 : mostR f = 25 := by unfold mostR; rw [if_pos ha]
          rw [if_neg (by simp [ha]), e1, e2]
          exact L 25 _ (by simp) (by omega)
        · have h18 : f.auth.length = 18 := by
            obtain ⟨_, _, _, _, _, _, ha', _⟩ := hf
            rcases ha' with h | h
            · exact absurd h ha
            · exact h.2
          have e1 : headE f = (([u8of (f.cmd % 256)] ++ [u8of (f.ver % 256)]) ++ [0, 0]) ++ ([255, 255] ++ f.auth) := by unfold headE; rw [if_neg ha]; rfl
          have e2 : mostR f = 24 := by unfold mostR; rw [if_neg ha]
          rw [if_pos (by simpa using ha), g_ref09_Put_eq, if_neg (by simp; omega), if_pos (maxB_of (by omega)), Option.bind_some]
          dsimp only
          rw [if_pos (maxB_of (by simp; omega)), e1, e2]
          exact L 24 _ (by simp; omega) (by omega)
    | succ d ih =>
      intro m i hd hm hb
      obtain ⟨m, rfl⟩ : ∃ k, m = k + 1 := ⟨m - 1, by omega⟩
      have hi : i < l.length := by omega
      rw [List.drop_eq_getElem_cons hi, badR] at hb
      rw [L_ref10_Encode_0_eq, ifd (by omega), if_pos (by omega), Int.toNat_natCast, bind_at hi, rripRight_is (g _ (List.getElem_mem hi)), Option.bind_some]
      dsimp only
      by_cases ho : okR l[i]
      · rw [if_pos ho] at hb
        have := ih m (i + 1) (by omega) (by omega) hb
        rw [rightR_true.2 ho, ifnt, w64 (by omega) (by omega)]
        exact this
      · rw [if_neg ho] at hb
        have : rightR l[i] = false := by cases e' : rightR l[i] with | false => rfl | true => exact absurd (rightR_true.1 e') ho
        rw [this, ifnf]
        unfold encR; rw [hb]
  exact main l.length fuel 0 (by omega) (fuel_ge (by omega)) rfl
end Go.VP
set_option linter.unusedVariables false
set_option linter.unusedSimpArgs false
set_option maxRecDepth 100000
namespace Go.VP
open Go Go.VI
theorem goodRM {m : Msg} (g : Good_api_Msg m) (h : Few m) : RM m := by
  obtain ⟨g1, g2, g3, g4, g5, g6, g7, g8, g9, g10, g11, g12, g13, g14, g15, g16, g17, g18, g19, g20, g21, _⟩ := g
  exact ⟨g9, g8, by have := h.list; omega, by have := h.subs; omega⟩
theorem goR_all {P : Msg → Prop} {f : Ent → Msg × Int} {b : Bs} (hf : ∀ e, P (f e).1) : ∀ (k at_ : Nat) (acc : List Msg), (∀ m ∈ acc, P m) → ∀ m ∈ (goR f b k at_ acc).1, P m
  | 0, _, acc, h => h
  | k + 1, at_, acc, h => by
    rw [goR]
    split
    · intro m hm; cases hm
    · exact goR_all hf k (at_ + 20) _ (fun m hm => by
        rcases List.mem_append.1 hm with hm | hm
        · exact h m hm
        · rw [List.mem_singleton] at hm; rw [hm]; exact hf _)
theorem parseR_all {P : Msg → Prop} {b : Bs} (hP : ∀ c v s e, P (routeM c v s e)) : ∀ m ∈ (parseR b).1, P m := by
  unfold parseR
  split
  · intro m hm; cases hm
  split
  · split
    · intro m hm; cases hm
    · exact goR_all (fun e => hP _ _ _ e) _ _ _ (fun m hm => by cases hm)
  · exact goR_all (fun e => hP _ _ _ e) _ _ _ (fun m hm => by cases hm)
end Go.VP
set_option linter.unusedVariables false
set_option linter.unusedSimpArgs false
set_option maxRecDepth 100000
namespace Go.VP
open Go Go.VI
theorem bare_routeM (c v : Int) (s : Bs) (e : Ent) : bareB (routeM c v s e) = true := by
  have : bareOf (routeM c v s e) = some (routeM c v s e) := by unfold bareOf; rw [if_pos (show (routeM c v s e).kind = 1 from rfl)]; rfl
  unfold bareB; rw [this]; exact eqB_refl _
theorem cut_app (s : Bs) (p q : Nat) (n m : Nat) (h : q = p + n) : cut_ s p n ++ cut_ s q m = cut_ s p (n + m : Nat) := by
  subst h
  unfold cut_
  rw [show ((p : Int) + (n : Int)).toNat = p + n by omega, show (((p + n : Nat) : Int) + (m : Int)).toNat = p + n + m by omega, show ((p : Int) + ((n + m : Nat) : Int)).toNat = p + n + m by omega, Int.toNat_natCast, Int.toNat_natCast]
  rw [List.drop_take, List.drop_take, List.drop_take, ← List.drop_drop, show p + n - p = n by omega, show p + n + m - (p + n) = m by omega, show p + n + m - p = n + m by omega, List.take_add]
theorem be2_cut {s : Bs} {p : Nat} (h : p + 2 ≤ s.length) : be 2 (num (cut_ s p 2)) = cut_ s p 2 := be_num 2 _ (cut_len (n := 2) h)
theorem be4_cut {s : Bs} {p : Nat} (h : p + 4 ≤ s.length) : be 4 (num (cut_ s p 4)) = cut_ s p 4 := be_num 4 _ (cut_len (n := 4) h)
theorem entB_entF {s : Bs} (h : s.length = 20) : entB (entF s) = s := by
  unfold entB entF
  dsimp only
  have a := be2_cut (s := s) (p := 0) (by omega)
  have b := be2_cut (s := s) (p := 2) (by omega)
  have c := be4_cut (s := s) (p := 16) (by omega)
  rw [show ((0 : Nat) : Int) = 0 from rfl] at a
  rw [show ((2 : Nat) : Int) = 2 from rfl] at b
  rw [show ((16 : Nat) : Int) = 16 from rfl] at c
  rw [a, b, c]
  have e1 : cut_ s 0 2 ++ cut_ s 2 2 = cut_ s 0 4 := cut_app s 0 2 2 2 rfl
  have e2 : cut_ s 0 4 ++ cut_ s 4 4 = cut_ s 0 8 := cut_app s 0 4 4 4 rfl
  have e3 : cut_ s 0 8 ++ cut_ s 8 4 = cut_ s 0 12 := cut_app s 0 8 8 4 rfl
  have e4 : cut_ s 0 12 ++ cut_ s 12 4 = cut_ s 0 16 := cut_app s 0 12 12 4 rfl
  have e5 : cut_ s 0 16 ++ cut_ s 16 4 = cut_ s 0 20 := cut_app s 0 16 16 4 rfl
  have f : cut_ s 0 20 = s := by unfold cut_; simp [← h]
  rw [e1, e2, e3, e4, e5, f]
theorem route_good {c v : Int} {s : Bs} {al : Bool} {e : Ent} (h : EntOk e) (hc : c = 1 ∨ c = 2) (hv : v = 1 ∨ v = 2) (hs : s = [] ∨ (v = 2 ∧ s.length = 18)) (he : errR c v s al e = 0) : okR (routeM c v s e) ∧ entM (routeM c v s e) = e ∧ (e.family = 0 → al = true) := by
  unfold errR at he
  by_cases f0 : e.family = 0
  · rw [if_pos f0] at he
    split at he
    · rename_i hh
      obtain ⟨ha, hm, ho⟩ := hh
      refine ⟨ho, ?_, fun _ => ha⟩
      unfold entM routeM
      dsimp only
      rw [if_neg (by omega), ← hm]
    · simp at he
  rw [if_neg f0] at he
  split at he
  · simp at he
  rename_i f2
  have f2 : e.family = 2 := by omega
  have h1 := h.tag
  by_cases v1 : v = 1
  · rw [if_pos v1] at he
    split at he
    · simp at he
    rename_i hz
    split at he
    · simp at he
    rename_i hm
    have hz1 : e.tag = 0 := by grind
    have hz2 : e.mask = z4 := by grind
    have hz3 : e.next = z4 := by grind
    refine ⟨⟨rfl, bare_routeM .., hc, hv, h.addr, h.next, hs, .inr ⟨f2, ?_, ?_, .inl ⟨v1, hz1, ?_, hz3⟩⟩⟩, ?_, fun c => absurd c f0⟩
    · show 1 ≤ e.metric; omega
    · show e.metric ≤ 16; omega
    · show (if e.family = 0 then (0 : Int) else if v = 1 then 32 else (plenF e.mask).1) = 32
      rw [if_neg f0, if_pos v1]
    · unfold entM routeM
      dsimp only
      rw [if_neg (by omega), ← hz2]
  · rw [if_neg v1] at he
    split at he
    · simp at he
    rename_i hp
    split at he
    · simp at he
    rename_i hm
    have hp1 : (plenF e.mask).2 = true := by grind
    have hp2 : cleanB e.addr (plenF e.mask).1 = true := by grind
    have hk := plenF_ok hp1
    have hpl : (routeM c v s e).plen = (plenF e.mask).1 := by
      show (if e.family = 0 then (0 : Int) else if v = 1 then 32 else (plenF e.mask).1) = _
      rw [if_neg f0, if_neg v1]
    refine ⟨⟨rfl, bare_routeM .., hc, hv, h.addr, h.next, hs, .inr ⟨f2, ?_, ?_, .inr ⟨?_, ?_, ?_, ?_, ?_, ?_⟩⟩⟩, ?_, fun c => absurd c f0⟩
    · show 1 ≤ e.metric; omega
    · show e.metric ≤ 16; omega
    · show v = 2; omega
    · show 0 ≤ e.tag; omega
    · show e.tag ≤ 65535; omega
    · rw [hpl]; omega
    · rw [hpl]; omega
    · rw [hpl]; exact hp2
    · unfold entM
      rw [hpl, if_pos (show (routeM c v s e).family = 2 ∧ (routeM c v s e).ver = 2 from ⟨f2, by show v = 2; omega⟩), hk.2.2]; rfl
theorem go_good {c v : Int} {s : Bs} {al : Bool} {b : Bs} (hc : c = 1 ∨ c = 2) (hv : v = 1 ∨ v = 2) (hs : s = [] ∨ (v = 2 ∧ s.length = 18)) : ∀ (k at_ : Nat) (acc : List Msg), at_ + 20 * k = b.length → (goR (rt c v s al) b k at_ acc).2.2 = 0 →
    ∃ r, (goR (rt c v s al) b k at_ acc) = (acc ++ r, 0, 0) ∧ r.length = k ∧ (∀ m ∈ r, okR m ∧ m.cmd = c ∧ m.ver = v ∧ m.auth = s ∧ (m.family = 0 → al = true)) ∧ r.flatMap lineF = b.drop at_
  | 0, at_, acc, h, _ => ⟨[], by simp [goR], rfl, by simp, by simp; omega⟩
  | k + 1, at_, acc, h, he => by
    have hl : (cut_ b at_ 20).length = 20 := cut_len (n := 20) (by omega)
    rw [goR] at he ⊢
    by_cases h0 : (rt c v s al (entF (cut_ b at_ 20))).2 = 0
    · rw [if_neg (fun c => c h0)] at he ⊢
      obtain ⟨r, h1, h2, h3, h4⟩ := go_good hc hv hs k (at_ + 20) _ (by omega) he
      obtain ⟨o1, o2, o3⟩ := route_good (al := al) (entF_ok hl) hc hv hs h0
      refine ⟨routeM c v s (entF (cut_ b at_ 20)) :: r, by rw [h1]; simp [rt], by simp [h2], fun m hm => ?_, ?_⟩
      · rcases List.mem_cons.1 hm with rfl | hm
        · exact ⟨o1, rfl, rfl, rfl, o3⟩
        · exact h3 m hm
      · rw [List.flatMap_cons, h4]
        unfold lineF
        rw [o2, entB_entF hl]
        have : cut_ b at_ 20 = (b.drop at_).take 20 := by
          unfold cut_
          rw [show ((at_ : Int) + 20).toNat = at_ + 20 by omega, Int.toNat_natCast, List.drop_take, show at_ + 20 - at_ = 20 by omega]
        rw [this, ← List.drop_drop, List.take_append_drop]
    · rw [if_pos h0] at he; exact absurd he h0
theorem enc_good {f : Msg} {most : Int} : ∀ (l : List Msg) (i : Nat) (acc : Bs), (i + l.length : Nat) ≤ most → (∀ (j : Nat) (h : j < l.length), 0 < i + j → togP f l[j]) → encGo f most l i acc = (acc ++ l.flatMap lineF, 0, 0)
  | [], i, acc, _, _ => by simp [encGo]
  | m :: r, i, acc, h, ht => by
    rw [encGo, if_neg (by simp at h; omega), if_neg (fun c => c.2 (ht 0 (by simp) (by omega))), enc_good r (i + 1) _ (by simp at h ⊢; omega) (fun j hj _ => by
      have := ht (j + 1) (by simp; omega) (by omega)
      simpa using this)]
    simp
end Go.VP
set_option linter.unusedVariables false
set_option linter.unusedSimpArgs false
set_option maxRecDepth 100000
namespace Go.VP
open Go Go.VI
theorem headR_rng (b : Bs) : 0 ≤ (headR b).1 ∧ (headR b).1 ≤ b.length := by
  unfold headR
  split
  · simp
  split
  · simp
  split
  · dsimp only; omega
  split
  · dsimp only; omega
  split
  · simp
  split
  · simp
  split
  · dsimp only; omega
  · simp
theorem goR_err {f : Ent → Msg × Int} {b : Bs} : ∀ (k at_ : Nat) (acc : List Msg), at_ + 20 * k ≤ b.length → (goR f b k at_ acc).2.2 ≠ 0 → (goR f b k at_ acc).1 = [] ∧ 0 ≤ (goR f b k at_ acc).2.1 ∧ (goR f b k at_ acc).2.1 ≤ b.length
  | 0, at_, acc, h, he => absurd rfl he
  | k + 1, at_, acc, h, he => by
    rw [goR] at he ⊢
    split
    · exact ⟨rfl, by dsimp only; omega, by dsimp only; omega⟩
    · rename_i h0
      rw [if_neg h0] at he
      exact goR_err k (at_ + 20) _ (by omega) he
theorem parseR_err {b : Bs} (h : (parseR b).2.2 ≠ 0) : (parseR b).1 = [] ∧ 0 ≤ (parseR b).2.1 ∧ (parseR b).2.1 ≤ b.length := by
  unfold parseR at h ⊢
  by_cases h0 : (headR b).2 = 0
  · have hk := headR_ok h0
    rw [if_neg (fun c => c h0)] at h ⊢
    by_cases h1 : bt b 1 = 2 ∧ authB (cut_ b 4 20) = true
    · rw [if_pos h1] at h ⊢
      by_cases h2 : b.length = 24
      · rw [if_pos h2]; exact ⟨rfl, by dsimp only; omega, by dsimp only; omega⟩
      · rw [if_neg h2] at h ⊢; exact goR_err _ _ _ (by omega) h
    · rw [if_neg h1] at h ⊢; exact goR_err _ _ _ (by omega) h
  · rw [if_pos h0]; exact ⟨rfl, headR_rng b⟩
theorem parse_good {b : Bs} (h : (parseR b).2.2 = 0) : ∃ r, parseR b = (r, 0, 0) ∧ 1 ≤ r.length ∧ r.length ≤ 25 ∧ (∀ m ∈ r, okR m) ∧ encR r = (b, 0, 0) := by
  unfold parseR at h ⊢
  by_cases h0 : (headR b).2 = 0
  rotate_left
  · rw [if_pos h0] at h; exact absurd h h0
  obtain ⟨k1, k2, k3, k4, k5, k6, k7⟩ := headR_ok h0
  rw [if_neg (fun c => c h0)] at h ⊢
  obtain ⟨w, x, y, z, t, rfl⟩ := four_of (b := b) (by omega)
  have e0 : bt (w :: x :: y :: z :: t) 0 = (w.toNat : Int) := rfl
  have e1 : bt (w :: x :: y :: z :: t) 1 = (x.toNat : Int) := rfl
  have hy : y = 0 := u8_eq (show (y.toNat : Int) = ((0 : UInt8).toNat : Int) from k5)
  have hz : z = 0 := u8_eq (show (z.toNat : Int) = ((0 : UInt8).toNat : Int) from k6)
  subst hy; subst hz
  have fin : ∀ (r : List Msg) (s : Bs) (al : Bool) (at_ : Nat), (s = [] ∨ (bt (w :: x :: 0 :: 0 :: t) 1 = 2 ∧ s.length = 18)) → (al = true → r.length = 1) → 1 ≤ r.length → r.length + (if s = [] then 0 else 1) ≤ 25 →
      (∀ m ∈ r, okR m ∧ m.cmd = bt (w :: x :: 0 :: 0 :: t) 0 ∧ m.ver = bt (w :: x :: 0 :: 0 :: t) 1 ∧ m.auth = s ∧ (m.family = 0 → al = true)) → r.flatMap lineF = (w :: x :: 0 :: 0 :: t).drop at_ → [w, x, 0, 0] ++ (if s = [] then [] else [255, 255] ++ s) = (w :: x :: 0 :: 0 :: t).take at_ → encR r = (w :: x :: 0 :: 0 :: t, 0, 0) := by
    intro r s al at_ hs hal hr1 hr2 hm hfl htk
    unfold encR
    rw [badR_ok (fun m h => (hm m h).1)]
    cases r with
    | nil => simp at hr1
    | cons f r =>
      obtain ⟨f1, f2, f3, f4, f5⟩ := hm f (by simp)
      dsimp only
      have hmo : (((f :: r).length : Nat) : Int) ≤ mostR f := by
        unfold mostR
        rw [f4]
        by_cases hs0 : s = []
        · rw [if_pos hs0] at hr2 ⊢; omega
        · rw [if_neg hs0] at hr2 ⊢; omega
      rw [enc_good (f :: r) 0 _ (by simpa using hmo) (fun j hj h0 => ?_)]
      · have : headE f = (w :: x :: 0 :: 0 :: t).take at_ := by
          rw [← htk]
          unfold headE
          rw [f2, f3, f4, e0, e1, u8of_emod' (by omega), u8of_emod' (by omega), u8of_nat, u8of_nat]
        rw [this, hfl, List.take_append_drop]
      · obtain ⟨g1, g2, g3, g4, g5⟩ := hm ((f :: r)[j]) (List.getElem_mem hj)
        have nal : ¬ al = true := fun c => by have := hal c; omega
        exact ⟨by rw [g2, f2], by rw [g3, f3], by rw [g4, f4], fun c => nal (g5 c), fun c => nal (f5 c)⟩
  generalize hB : (w :: x :: 0 :: 0 :: t) = B at *
  have hl : (cut_ B 4 20).length = 20 := cut_len (p := 4) (n := 20) (by omega)
  have tk4 : B.take 4 = [w, x, 0, 0] := by rw [← hB]; rfl
  by_cases h1 : bt B 1 = 2 ∧ authB (cut_ B 4 20) = true
  · rw [if_pos h1] at h ⊢
    by_cases h2 : B.length = 24
    · rw [if_pos h2] at h; simp at h
    rw [if_neg h2] at h ⊢
    have hs : ((cut_ B 4 20).drop 2).length = 18 := by simp [hl]
    obtain ⟨r, r1, r2, r3, r4⟩ := go_good k3 k4 (.inr ⟨h1.1, hs⟩) ((B.length - 24) / 20) 24 [] (by omega) h
    rw [r1]
    refine ⟨r, by simp, by omega, by omega, fun m hm => (r3 m hm).1, fin r _ _ 24 (.inr ⟨h1.1, hs⟩) (fun c => by simp at c; omega) (by omega) (by split <;> omega) r3 r4 ?_⟩
    have hne : ¬ ((cut_ B 4 20).drop 2 = []) := fun c => by rw [c] at hs; simp at hs
    rw [if_neg hne, ← tk4]
    have h2 : (cut_ B 4 20).take 2 = [255, 255] := by have := h1.2; unfold authB at this; simpa using this
    rw [← h2, List.take_append_drop]
    have : cut_ B 4 20 = (B.take 24).drop 4 := rfl
    rw [this]
    have := List.take_append_drop 4 (B.take 24)
    rw [List.take_take, show min 4 24 = 4 by decide] at this
    exact this
  · rw [if_neg h1] at h ⊢
    obtain ⟨r, r1, r2, r3, r4⟩ := go_good k3 k4 (.inl rfl) ((B.length - 4) / 20) 4 [] (by omega) h
    rw [r1]
    exact ⟨r, by simp, by omega, by omega, fun m hm => (r3 m hm).1, fin r _ _ 4 (.inl rfl) (fun c => by simp at c; omega) (by omega) (by simp; omega) r3 r4 (by rw [if_pos rfl, tk4]; rfl)⟩
end Go.VP
set_option linter.unusedVariables false
set_option linter.unusedSimpArgs false
set_option maxRecDepth 100000
namespace Go.VP
open Go Go.VI
theorem encGo_ok {f : Msg} {most : Int} : ∀ (l : List Msg) (i : Nat) (acc : Bs), (i : Int) ≤ most → (encGo f most l i acc).2.2 = 0 → ((i + l.length : Nat) : Int) ≤ most ∧ (∀ (j : Nat) (h : j < l.length), 0 < i + j → togP f l[j])
  | [], i, acc, hi, h => ⟨by simpa using hi, fun j hj => by simp at hj⟩
  | m :: r, i, acc, hi, h => by
    rw [encGo] at h
    by_cases h1 : (i : Int) = most
    · rw [if_pos h1] at h; simp at h
    · rw [if_neg h1] at h
      by_cases h2 : 0 < i ∧ ¬ togP f m
      · rw [if_pos h2] at h; simp at h
      · rw [if_neg h2] at h
        obtain ⟨a, b⟩ := encGo_ok r (i + 1) _ (by omega) h
        refine ⟨by simp only [List.length_cons]; omega, fun j hj h0 => ?_⟩
        cases j with
        | zero =>
          show togP f m
          exact Classical.byContradiction fun c => h2 ⟨by omega, c⟩
        | succ j =>
          have := b j (by simpa using hj) (by omega)
          simpa using this
theorem num_be2R {n : Int} (h : 0 ≤ n ∧ n ≤ 65535) : num (be 2 n) = n := num_be 2 n h.1 (by omega)
theorem num_be4 {n : Int} (h : 0 ≤ n ∧ n ≤ 4294967295) : num (be 4 n) = n := num_be 4 n h.1 (by omega)
theorem cut_at (a m z : Bs) (p n : Int) (hp : p = a.length) (hn : n = m.length) : cut_ (a ++ (m ++ z)) p n = m := by
  subst hp; subst hn
  unfold cut_
  rw [show ((a.length : Int) + (m.length : Int)).toNat = a.length + m.length by omega, Int.toNat_natCast, ← List.append_assoc, List.take_left' (by simp), List.drop_left' rfl]
theorem entF_entB {e : Ent} (h : EntOk e) : entF (entB e) = e := by
  obtain ⟨a, b, c, d, f, g⟩ := e
  have h1 := h.addr; have h2 := h.mask; have h3 := h.next; have h4 := h.fam; have h5 := h.tag; have h6 := h.metric
  dsimp only at h1 h2 h3 h4 h5 h6
  have l2 := be_length 2
  have l4 := be_length 4
  have c1 : cut_ (entB ⟨a, b, c, d, f, g⟩) 0 2 = be 2 a := by
    have := cut_at [] (be 2 a) (be 2 b ++ (c ++ (d ++ (f ++ be 4 g)))) 0 2 rfl (by rw [l2]; rfl)
    rw [← this]; unfold entB; simp only [List.append_assoc, List.nil_append]
  have c2 : cut_ (entB ⟨a, b, c, d, f, g⟩) 2 2 = be 2 b := by
    have := cut_at (be 2 a) (be 2 b) (c ++ (d ++ (f ++ be 4 g))) 2 2 (by rw [l2]; rfl) (by rw [l2]; rfl)
    unfold entB; simp only [List.append_assoc] at this ⊢; exact this
  have c3 : cut_ (entB ⟨a, b, c, d, f, g⟩) 4 4 = c := by
    have := cut_at (be 2 a ++ be 2 b) c (d ++ (f ++ be 4 g)) 4 4 (by simp [l2]) (by rw [h1]; rfl)
    unfold entB; simp only [List.append_assoc] at this ⊢; exact this
  have c4 : cut_ (entB ⟨a, b, c, d, f, g⟩) 8 4 = d := by
    have := cut_at (be 2 a ++ be 2 b ++ c) d (f ++ be 4 g) 8 4 (by simp [l2, h1]) (by rw [h2]; rfl)
    unfold entB; simp only [List.append_assoc] at this ⊢; exact this
  have c5 : cut_ (entB ⟨a, b, c, d, f, g⟩) 12 4 = f := by
    have := cut_at (be 2 a ++ be 2 b ++ c ++ d) f (be 4 g) 12 4 (by simp [l2, h1, h2]) (by rw [h3]; rfl)
    unfold entB; simp only [List.append_assoc] at this ⊢; exact this
  have c6 : cut_ (entB ⟨a, b, c, d, f, g⟩) 16 4 = be 4 g := by
    have := cut_at (be 2 a ++ be 2 b ++ c ++ d ++ f) (be 4 g) [] 16 4 (by simp [l2, h1, h2, h3]) (by rw [l4]; rfl)
    rw [← this]; unfold entB; simp only [List.append_assoc, List.append_nil]
  unfold entF
  rw [c1, c2, c3, c4, c5, c6, num_be2R h4, num_be2R h5, num_be4 h6]
theorem bare_back {m : Msg} (h1 : m.kind = 1) (h : bareB m = true) : m = ⟨1, m.cmd, m.ver, m.auth, m.family, 0, m.prefix_, m.plen, m.tag, m.next, m.metric, [], 0, 0, 0, 0, 0, 0, 0, [], [], [], 0, [], []⟩ := by
  have hb : bareOf m = some ⟨m.kind, m.cmd, m.ver, m.auth, m.family, 0, m.prefix_, m.plen, m.tag, m.next, m.metric, [], 0, 0, 0, 0, 0, 0, 0, [], [], [], 0, [], []⟩ := by unfold bareOf; rw [if_pos h1]
  unfold bareB at h
  rw [hb] at h
  have := eqB_true'.1 h
  rw [h1] at this
  exact this
theorem route_back {m : Msg} {al : Bool} (h : okR m) (ha : m.family = 0 → al = true) : rt m.cmd m.ver m.auth al (entM m) = (m, 0) := by
  have hb := bare_back h.1 h.2.1
  have ho := h
  obtain ⟨_, _, hc, hv, hp, hn, hau, hx⟩ := h
  have hM : routeM m.cmd m.ver m.auth (entM m) = m := by
    have hpl : (if (entM m).family = 0 then (0 : Int) else if m.ver = 1 then 32 else (plenF (entM m).mask).1) = m.plen := by
      show (if m.family = 0 then (0 : Int) else if m.ver = 1 then 32 else (plenF (if m.family = 2 ∧ m.ver = 2 then maskF m.plen else z4)).1) = m.plen
      rcases hx with ⟨f0, _, _, p0, _⟩ | ⟨f2, _, _, ⟨v1, _, p32, _⟩ | ⟨v2, _, _, p1, p2, _⟩⟩
      · rw [if_pos f0, p0]
      · rw [if_neg (by omega), if_pos v1, p32]
      · rw [if_neg (by omega), if_neg (by omega), if_pos ⟨f2, v2⟩, plenF_maskF p1 p2]
    unfold routeM
    rw [hpl]
    exact hb.symm
  unfold rt
  rw [hM]
  have : errR m.cmd m.ver m.auth al (entM m) = 0 := by
    unfold errR
    rw [hM]
    rcases hx with ⟨f0, _, _, p0, _⟩ | ⟨f2, m1, m2, ⟨v1, t0, p32, nz⟩ | ⟨v2, _, _, p1, p2, hcl⟩⟩
    · rw [if_pos (show (entM m).family = 0 from f0), if_pos ⟨ha f0, by show (if m.family = 2 ∧ m.ver = 2 then maskF m.plen else z4) = z4; rw [if_neg (by omega)], ho⟩]
    · have e1 : (entM m).mask = z4 := by show (if m.family = 2 ∧ m.ver = 2 then maskF m.plen else z4) = z4; rw [if_neg (by omega)]
      rw [if_neg (show ¬ (entM m).family = 0 by show ¬ m.family = 0; omega), if_neg (show ¬ (entM m).family ≠ 2 by show ¬ m.family ≠ 2; omega), if_pos v1, if_neg (by rintro (c | c | c); exact c t0; exact c e1; exact c nz), if_neg (show ¬ ((entM m).metric < 1 ∨ 16 < (entM m).metric) by show ¬ (m.metric < 1 ∨ 16 < m.metric); omega)]
    · have e1 : (entM m).mask = maskF m.plen := by show (if m.family = 2 ∧ m.ver = 2 then maskF m.plen else z4) = _; rw [if_pos ⟨f2, v2⟩]
      rw [if_neg (show ¬ (entM m).family = 0 by show ¬ m.family = 0; omega), if_neg (show ¬ (entM m).family ≠ 2 by show ¬ m.family ≠ 2; omega), if_neg (by omega), e1, plenF_maskF p1 p2, if_neg (fun c => c ⟨rfl, hcl⟩), if_neg (show ¬ ((entM m).metric < 1 ∨ 16 < (entM m).metric) by show ¬ (m.metric < 1 ∨ 16 < m.metric); omega)]
  rw [this]
theorem go_back {c v : Int} {s : Bs} {al : Bool} {b : Bs} : ∀ (l : List Msg) (at_ : Nat) (acc : List Msg), (∀ m ∈ l, okR m ∧ m.cmd = c ∧ m.ver = v ∧ m.auth = s ∧ (m.family = 0 → al = true)) → b.drop at_ = l.flatMap lineF → goR (rt c v s al) b l.length at_ acc = (acc ++ l, 0, 0)
  | [], at_, acc, _, _ => by simp [goR]
  | m :: r, at_, acc, hm, hd => by
    obtain ⟨h1, h2, h3, h4, h5⟩ := hm m (by simp)
    have hl := lineF_length h1
    rw [List.flatMap_cons] at hd
    have hcut : cut_ b at_ 20 = lineF m := by
      unfold cut_
      rw [show ((at_ : Int) + 20).toNat = at_ + 20 by omega, Int.toNat_natCast, List.drop_take, show at_ + 20 - at_ = 20 by omega, hd, List.take_left' hl]
    have hn : b.drop (at_ + 20) = r.flatMap lineF := by rw [← List.drop_drop, hd, List.drop_left' hl]
    have hr := route_back (al := al) h1 h5
    rw [h2, h3, h4] at hr
    rw [List.length_cons, goR, hcut]
    unfold lineF
    rw [entF_entB (entM_ok h1), hr, if_neg (by simp), go_back r (at_ + 20) _ (fun x hx => hm x (by simp [hx])) hn]
    simp
theorem flat_len : ∀ {l : List Msg}, (∀ m ∈ l, okR m) → (l.flatMap lineF).length = 20 * l.length
  | [], _ => rfl
  | m :: r, h => by
    rw [List.flatMap_cons, List.length_append, lineF_length (h m (by simp)), flat_len (fun x hx => h x (by simp [hx])), List.length_cons]; omega
theorem headR_of {b : Bs} (k1 : 24 ≤ b.length) (k2 : b.length ≤ 504) (k3 : bt b 0 = 1 ∨ bt b 0 = 2) (k4 : bt b 1 = 1 ∨ bt b 1 = 2) (k5 : bt b 2 = 0 ∧ bt b 3 = 0) (k7 : ((b.length : Int) - 4) % 20 = 0) : headR b = (0, 0) := by
  unfold headR
  rw [if_neg (by omega), if_neg (fun c => c k3), if_neg (fun c => c k4), if_neg (fun c => c k5), if_neg (by omega), if_neg (by omega), if_neg (by omega)]
theorem parse_back {f : Msg} {r : List Msg} (hok : ∀ m ∈ f :: r, okR m) (ht : ∀ m ∈ r, togP f m) (hfam : f.family = 0 → r = []) (hlen : (((f :: r).length : Nat) : Int) ≤ mostR f) : parseR (headE f ++ (f :: r).flatMap lineF) = (f :: r, 0, 0) := by
  have hf := hok f (by simp)
  have hl := headE_length hf
  have hfl := flat_len hok
  have hfo := hf
  obtain ⟨_, _, hc, hv, _, _, hau, hx⟩ := hf
  have hmem : ∀ al : Bool, (r = [] → al = true) → ∀ m ∈ f :: r, okR m ∧ m.cmd = f.cmd ∧ m.ver = f.ver ∧ m.auth = f.auth ∧ (m.family = 0 → al = true) := fun al hal m hm => by
    refine ⟨hok m hm, ?_⟩
    rcases List.mem_cons.1 hm with rfl | hm
    · exact ⟨rfl, rfl, rfl, fun c => hal (hfam c)⟩
    · obtain ⟨t1, t2, t3, t4, _⟩ := ht m hm
      exact ⟨t1, t2, t3, fun c => absurd c t4⟩
  have ub : ∀ x : Int, x = 1 ∨ x = 2 → ((u8of (x % 256)).toNat : Int) = x := fun x hx => by rw [u8of_int]; omega
  have hline : ∃ p q t, lineF f = p :: q :: t ∧ ¬ (p = 255) := by
    have : be 2 f.family = [0, 0] ∨ be 2 f.family = [0, 2] := by
      rcases hx with ⟨f0, _⟩ | ⟨f2, _⟩
      · rw [f0]; exact .inl rfl
      · rw [f2]; exact .inr rfl
    unfold lineF entB entM
    dsimp only
    rcases this with e | e <;> rw [e] <;> exact ⟨_, _, _, rfl, by decide⟩
  by_cases ha : f.auth = []
  · have hE : headE f = [u8of (f.cmd % 256), u8of (f.ver % 256), 0, 0] := by unfold headE; rw [if_pos ha]; rfl
    rw [if_pos ha] at hl
    generalize hX : (f :: r).flatMap lineF = X at *
    have hb : headE f ++ X = u8of (f.cmd % 256) :: u8of (f.ver % 256) :: 0 :: 0 :: X := by rw [hE]; rfl
    rw [hb]
    have b0 : bt (u8of (f.cmd % 256) :: u8of (f.ver % 256) :: 0 :: 0 :: X) 0 = f.cmd := ub _ hc
    have b1 : bt (u8of (f.cmd % 256) :: u8of (f.ver % 256) :: 0 :: 0 :: X) 1 = f.ver := ub _ hv
    have b2 : bt (u8of (f.cmd % 256) :: u8of (f.ver % 256) :: 0 :: 0 :: X) 2 = 0 := rfl
    have b3 : bt (u8of (f.cmd % 256) :: u8of (f.ver % 256) :: 0 :: 0 :: X) 3 = 0 := rfl
    have dr : (u8of (f.cmd % 256) :: u8of (f.ver % 256) :: 0 :: 0 :: X).drop 4 = X := rfl
    have hL : (u8of (f.cmd % 256) :: u8of (f.ver % 256) :: 0 :: 0 :: X).length = 4 + 20 * (f :: r).length := by simp only [List.length_cons] at hfl ⊢; omega
    have hm25 : (f :: r).length ≤ 25 := by unfold mostR at hlen; rw [if_pos ha] at hlen; omega
    have h1 : 1 ≤ (f :: r).length := by simp
    have hna : ¬ authB (cut_ (u8of (f.cmd % 256) :: u8of (f.ver % 256) :: 0 :: 0 :: X) 4 20) = true := by
      have e : cut_ (u8of (f.cmd % 256) :: u8of (f.ver % 256) :: 0 :: 0 :: X) 4 20 = X.take 20 := by
        show ((u8of (f.cmd % 256) :: u8of (f.ver % 256) :: 0 :: 0 :: X).take 24).drop 4 = X.take 20
        rfl
      rw [e]
      obtain ⟨p, q, t, e1, e2⟩ := hline
      have : X = p :: q :: (t ++ r.flatMap lineF) := by rw [← hX, List.flatMap_cons, e1]; rfl
      rw [this]
      simp [authB, e2]
    generalize hB : u8of (f.cmd % 256) :: u8of (f.ver % 256) :: 0 :: 0 :: X = B at *
    unfold parseR
    rw [headR_of (by omega) (by omega) (by rw [b0]; exact hc) (by rw [b1]; exact hv) ⟨b2, b3⟩ (by omega), if_neg (by simp), if_neg (fun c => hna c.2), show (B.length - 4) / 20 = (f :: r).length by omega, b0, b1]
    have := go_back (c := f.cmd) (v := f.ver) (s := []) (al := decide (B.length = 24)) (b := B) (f :: r) 4 [] (by have := hmem (decide (B.length = 24)) (fun c => by rw [c] at hL; simp at hL; simp; omega); rw [ha] at this; exact this) (by rw [dr, hX])
    rw [this]; rfl
  · have h18 : f.ver = 2 ∧ f.auth.length = 18 := by rcases hau with h | h; exact absurd h ha; exact h
    have hE : headE f = [u8of (f.cmd % 256), u8of (f.ver % 256), 0, 0] ++ ([255, 255] ++ f.auth) := by unfold headE; rw [if_neg ha]
    rw [if_neg ha] at hl
    generalize hX : (f :: r).flatMap lineF = X at *
    have hb : headE f ++ X = u8of (f.cmd % 256) :: u8of (f.ver % 256) :: 0 :: 0 :: (([255, 255] ++ f.auth) ++ X) := by rw [hE]; rfl
    have dr : (headE f ++ X).drop 24 = X := List.drop_left' hl
    have hL : (headE f ++ X).length = 24 + 20 * (f :: r).length := by rw [List.length_append, hl, hfl]
    rw [hb] at dr hL ⊢
    generalize hY : ([255, 255] ++ f.auth) ++ X = Y at *
    have b0 : bt (u8of (f.cmd % 256) :: u8of (f.ver % 256) :: 0 :: 0 :: Y) 0 = f.cmd := ub _ hc
    have b1 : bt (u8of (f.cmd % 256) :: u8of (f.ver % 256) :: 0 :: 0 :: Y) 1 = f.ver := ub _ hv
    have b2 : bt (u8of (f.cmd % 256) :: u8of (f.ver % 256) :: 0 :: 0 :: Y) 2 = 0 := rfl
    have b3 : bt (u8of (f.cmd % 256) :: u8of (f.ver % 256) :: 0 :: 0 :: Y) 3 = 0 := rfl
    have hm24 : (f :: r).length ≤ 24 := by unfold mostR at hlen; rw [if_neg ha] at hlen; omega
    have h1 : 1 ≤ (f :: r).length := by simp
    have e : cut_ (u8of (f.cmd % 256) :: u8of (f.ver % 256) :: 0 :: 0 :: Y) 4 20 = [255, 255] ++ f.auth := by
      show Y.take 20 = _
      rw [← hY, List.take_left' (by simp [h18.2])]
    generalize hB : u8of (f.cmd % 256) :: u8of (f.ver % 256) :: 0 :: 0 :: Y = B at *
    unfold parseR
    rw [headR_of (by omega) (by omega) (by rw [b0]; exact hc) (by rw [b1]; exact hv) ⟨b2, b3⟩ (by omega), if_neg (by simp), e, if_pos ⟨by rw [b1]; exact h18.1, rfl⟩, if_neg (by omega), show (B.length - 24) / 20 = (f :: r).length by omega, b0, b1, show (([255, 255] : Bs) ++ f.auth).drop 2 = f.auth from rfl]
    have := go_back (c := f.cmd) (v := f.ver) (s := f.auth) (al := decide (B.length = 44)) (b := B) (f :: r) 24 [] (hmem _ (fun c => by rw [c] at hL; simp at hL; simp; omega)) (by rw [dr, hX])
    rw [this]; rfl
end Go.VP
set_option linter.unusedVariables false
set_option linter.unusedSimpArgs false
set_option maxRecDepth 100000
namespace Go.VP
open Go Go.VI
def extB (l : List Sub) : Bool := l.all (subB 0 255)
def AllE (l : List Sub) : Prop := ∀ y ∈ l, 0 ≤ y.type_ ∧ y.type_ ≤ 255 ∧ y.data.length ≤ 255
theorem allE_iff {l : List Sub} : extB l = true ↔ AllE l := by simp [extB, subB, AllE]
theorem reright_is {l : List Sub} (hl : l.length ≤ 1000000000) : g_ref13_Right (l, ()) = some ((extB l, ()), ()) := by
  rw [g_ref13_Right_eq, rsubs_is hl]; rfl
theorem u8t {y : Sub} (h : 0 ≤ y.type_ ∧ y.type_ ≤ 255 ∧ y.data.length ≤ 255) : u8of (IntKind.wrap .u8 y.type_) = u8of y.type_ ∧ u8of (IntKind.wrap .u8 (y.data.length : Int)) = u8of y.data.length := by
  rw [wu8, wu8, u8of_emod' h.1, u8of_emod' (by omega)]; exact ⟨rfl, rfl⟩
theorem reput_loop {l : List Sub} {n : Nat} (hr : AllE l) (h1 : l.length ≤ 1000000) : ∀ (d m i : Nat) (acc : Bs), i + d = l.length → d < m → acc.length ≤ 257 * i →
    L_ref13_Put_0 n m l acc i = some ((acc ++ encS (l.drop i), true, ()), ()) := by
  intro d
  induction d with
  | zero =>
    intro m i acc hd hm ha
    obtain ⟨m, rfl⟩ : ∃ k, m = k + 1 := ⟨m - 1, by omega⟩
    rw [L_ref13_Put_0_eq, ifn (by omega), List.drop_eq_nil_of_le (by omega), encS, List.append_nil]
  | succ d ih =>
    intro m i acc hd hm ha
    obtain ⟨m, rfl⟩ : ∃ k, m = k + 1 := ⟨m - 1, by omega⟩
    have hlt : i < l.length := by omega
    have hy := hr l[i] (List.getElem_mem hlt)
    have := ih m (i + 1) (acc ++ [u8of l[i].type_, u8of l[i].data.length] ++ l[i].data) (by omega) (by omega) (by simp; omega)
    rw [show ((i + 1 : Nat) : Int) = (i : Int) + 1 by omega] at this
    rw [L_ref13_Put_0_eq, ifd (by omega), if_pos (by omega), Int.toNat_natCast, bind_at hlt, if_pos (by omega), bind_at hlt, (u8t hy).1, (u8t hy).2, if_pos (maxB_of (by simp; omega)), if_pos (by omega), bind_at hlt, if_pos (maxB_of (by simp; omega)), w64 (by omega) (by omega), this, List.drop_eq_getElem_cons hlt, encS]
    simp
def putE (l : List Sub) : Bs × Bool := if extB l = true then (encS l, true) else ([], false)
theorem putE_ok {l : List Sub} (h : extB l = true) : putE l = (encS l, true) := by unfold putE; rw [if_pos h]
theorem reput_is {l : List Sub} (hl : FewS l) (h1 : l.length ≤ 1000000) : g_ref13_Put (l, ()) = some (((putE l).1, (putE l).2, ()), ()) := by
  show h_ref13_Put fuel _ = _
  rw [h_ref13_Put_eq, reright_is hl.1, Option.bind_some]
  unfold putE
  dsimp only
  by_cases h : extB l = true
  · have := reput_loop (n := fuel) (allE_iff.1 h) h1 l.length fuel 0 [] (by omega) (fuel_ge (by omega)) (by simp)
    rw [show ((0 : Nat) : Int) = 0 from rfl] at this
    rw [h, ifnt, this, ift]
    simp
  · rw [Bool.not_eq_true] at h
    rw [h, ifnf, iff_]
def goE (s : Bs) : Nat → Nat → List Sub → List Sub × Int × Int
  | 0, _, acc => (acc, 0, 0)
  | d + 1, p, acc =>
    if p < s.length then
      if (s.length : Int) < p + 2 + bt s (p + 1) then ([], p, 2)
      else goE s d (p + 2 + (bt s (p + 1)).toNat) (acc ++ [⟨bt s p, cut_ s (p + 2) (bt s (p + 1))⟩])
    else (acc, 0, 0)
def getE (s : Bs) : List Sub × Int × Int := goE s (s.length + 1) 0 []
theorem eget_loop {s : Bs} {n : Nat} (hs : s.length ≤ 1000000) : ∀ (d m p : Nat) (acc : List Sub), s.length < p + d → p ≤ s.length → d < m → acc.length ≤ p →
    L_ext_Get_0 n m acc s p s.length false = some (trip (goE s d p acc), ()) := by
  intro d
  induction d with
  | zero => intro m p acc h1 h2; omega
  | succ d ih =>
    intro m p acc h1 h2 hm ha
    obtain ⟨m, rfl⟩ : ∃ k, m = k + 1 := ⟨m - 1, by omega⟩
    have w : WfC s p s.length := ⟨by omega, by omega, by omega, by omega⟩
    rw [L_ext_Get_0_eq]
    rw [show g_cursor_Left (⟨s, (p : Int), (s.length : Int), false⟩, ()) = _ from left_is w, Option.bind_some]
    dsimp only
    unfold goE
    by_cases hp : p < s.length
    · rw [ifd (by omega), if_pos hp]
      rw [show g_cursor_Num (⟨s, (p : Int), (s.length : Int), false⟩, 1, ()) = _ from num_ok w (by omega) (by omega) (by omega), Option.bind_some]
      dsimp only
      have w1 := w.fwd (n := 1) (by omega) (by omega)
      rw [num1 (by omega)]
      by_cases h2' : p + 2 ≤ s.length
      · rw [num_ok w1 (by omega) (by omega) (by omega), Option.bind_some]
        dsimp only
        have hb := bt_rng s (p + 1)
        have w2 := w1.fwd (n := 1) (by omega) (by omega)
        rw [show (p : Int) + 1 = ((p + 1 : Nat) : Int) by omega, num1 (s := s) (p := p + 1) (by omega)]
        by_cases h3 : (s.length : Int) < p + 2 + bt s (p + 1)
        · rw [if_pos h3, text_bad (by rw [show (((p + 1 : Nat) : Int)) = (p : Int) + 1 by omega]; exact w2) (.inr (.inr (by omega))), Option.bind_some]
          rfl
        · rw [if_neg h3, text_ok (by rw [show (((p + 1 : Nat) : Int)) = (p : Int) + 1 by omega]; exact w2) (by omega) (by omega), Option.bind_some]
          dsimp only
          rw [iff_, if_pos (room_mul (by simp; omega) subBo)]
          have := ih m (p + 2 + (bt s (p + 1)).toNat) (acc ++ [⟨bt s p, cut_ s (p + 2) (bt s (p + 1))⟩]) (by omega) (by omega) (by omega) (by simp; omega)
          rw [← this, show ((p + 1 : Nat) : Int) + 1 = (p : Int) + 2 by omega]
          congr 1
      · have hb : bt s (p + 1) = 0 := by unfold bt; rw [List.getElem?_eq_none (by omega)]; rfl
        rw [num_bad w1 (by omega) (by omega) (.inr (by omega)), Option.bind_some]
        dsimp only
        rw [text_bad w1 (.inl rfl), Option.bind_some, hb, if_pos (show (s.length : Int) < p + 2 + 0 by omega)]
        rfl
    · rw [ifn (by omega), if_neg hp]
theorem eget_is {s : Bs} (hs : s.length ≤ 1000000) : g_ext_Get (s, ()) = some (trip (getE s), ()) := by
  show h_ext_Get fuel _ = _
  rw [h_ext_Get_eq, new_is, Option.bind_some]
  exact eget_loop (n := fuel) hs (s.length + 1) fuel 0 [] (by omega) (by omega) (fuel_ge (by omega)) (by simp)
end Go.VP
set_option linter.unusedVariables false
set_option linter.unusedSimpArgs false
set_option maxRecDepth 100000
namespace Go.VP
open Go Go.VI
theorem cut_dropN (b : Bs) (p k : Nat) : cut_ b p (k : Int) = (b.drop p).take k := by
  unfold cut_
  rw [show ((p : Int) + (k : Int)).toNat = p + k by omega, Int.toNat_natCast, List.drop_take]
  congr 1
  omega
theorem goE_place {s : Bs} : ∀ (d p : Nat) (acc : List Sub), 0 ≤ (goE s d p acc).2.1 ∧ (goE s d p acc).2.1 ≤ s.length ∧ ((goE s d p acc).2.2 = 0 ∨ (goE s d p acc).2.2 = 2)
  | 0, p, acc => by simp [goE]
  | d + 1, p, acc => by
    unfold goE
    split
    · split
      · dsimp only; omega
      · exact goE_place d _ _
    · simp
theorem getE_place (s : Bs) : 0 ≤ (getE s).2.1 ∧ (getE s).2.1 ≤ s.length ∧ ((getE s).2.2 = 0 ∨ (getE s).2.2 = 2) := goE_place _ _ _
theorem goE_ok {s : Bs} : ∀ (d p : Nat) (acc : List Sub), s.length < p + d → (goE s d p acc).2.2 = 0 → (goE s d p acc).2.1 = 0 ∧ ∃ l, (goE s d p acc).1 = acc ++ l ∧ AllE l ∧ encS l = s.drop p ∧ 2 * l.length + p ≤ s.length + p
  | 0, p, acc, hd, h => ⟨rfl, [], by simp [goE], (fun y hy => by cases hy), by rw [List.drop_eq_nil_of_le (by omega)]; rfl, by simp⟩
  | d + 1, p, acc, hd, h => by
    unfold goE at h ⊢
    by_cases h1 : p < s.length
    · rw [if_pos h1] at h ⊢
      by_cases h2 : (s.length : Int) < p + 2 + bt s (p + 1)
      · rw [if_pos h2] at h; cases h
      · rw [if_neg h2] at h ⊢
        have hb := bt_rng s (p + 1)
        have hb0 := bt_rng s p
        obtain ⟨k0, l, k1, k2, k3, k4⟩ := goE_ok d _ _ (by omega) h
        have hcl : (cut_ s (p + 2) (bt s (p + 1))).length = (bt s (p + 1)).toNat := by
          have := cut_length (s := s) (p := (p : Int) + 2) (n := bt s (p + 1)) (by omega) (by omega) (by omega)
          omega
        refine ⟨k0, ⟨bt s p, cut_ s (p + 2) (bt s (p + 1))⟩ :: l, by rw [k1]; simp, fun y hy => ?_, ?_, ?_⟩
        · rcases List.mem_cons.1 hy with rfl | hy
          · exact ⟨hb0.1, by show bt s p ≤ 255; omega, by show (cut_ s (p + 2) (bt s (p + 1))).length ≤ 255; omega⟩
          · exact k2 y hy
        · unfold encS
          rw [k3]
          dsimp only
          rw [hcl]
          have e1 : u8of (bt s p) = s[p] := by
            have : bt s p = (s[p].toNat : Int) := by unfold bt; simp [h1]
            rw [this, u8of_nat]
          have hp1 : p + 1 < s.length := by omega
          have e2 : u8of (((bt s (p + 1)).toNat : Nat) : Int) = s[p + 1] := by
            have : bt s (p + 1) = (s[p + 1].toNat : Int) := by unfold bt; simp [hp1]
            rw [this, Int.toNat_natCast, u8of_nat]
          have e3 : cut_ s ((p : Int) + 2) (bt s (p + 1)) = (s.drop (p + 2)).take (bt s (p + 1)).toNat := by
            have := cut_dropN s (p + 2) (bt s (p + 1)).toNat
            rw [show ((p + 2 : Nat) : Int) = (p : Int) + 2 by omega, show (((bt s (p + 1)).toNat : Nat) : Int) = bt s (p + 1) by omega] at this
            exact this
          rw [e1, e2, e3, List.drop_eq_getElem_cons h1, List.drop_eq_getElem_cons hp1, show p + 1 + 1 = p + 2 by omega, show s.drop (p + 2 + (bt s (p + 1)).toNat) = (s.drop (p + 2)).drop (bt s (p + 1)).toNat by rw [List.drop_drop], List.take_append_drop]
        · have := congrArg List.length k3
          simp only [List.length_cons]
          have e := encS_length l
          have hlen : ∀ l : List Sub, 2 * (l.length : Int) ≤ sumN l := fun l => by
            induction l with
            | nil => simp [sumN]
            | cons y l ih => simp only [sumN, List.length_cons]; omega
          have := hlen l
          rw [List.length_drop] at *
          omega
    · rw [if_neg h1] at h ⊢
      exact ⟨rfl, [], by simp, (fun y hy => by cases hy), by rw [List.drop_eq_nil_of_le (by omega)]; rfl, by simp⟩
theorem getE_ok {s : Bs} (h : (getE s).2.2 = 0) : (getE s).2.1 = 0 ∧ AllE (getE s).1 ∧ encS (getE s).1 = s ∧ 2 * (getE s).1.length ≤ s.length := by
  obtain ⟨k0, l, k1, k2, k3, k4⟩ := goE_ok (s := s) (s.length + 1) 0 [] (by omega) h
  rw [List.nil_append] at k1
  unfold getE
  rw [k1]
  exact ⟨k0, k2, by rw [k3]; rfl, by omega⟩
theorem goE_back : ∀ (l : List Sub) (d p : Nat) (s : Bs) (acc : List Sub), AllE l → s.drop p = encS l → p ≤ s.length → s.length < p + d → goE s d p acc = (acc ++ l, 0, 0)
  | [], d, p, s, acc, hl, hs, hp, hd => by
    have := congrArg List.length hs
    rw [List.length_drop] at this
    unfold encS at this
    simp at this
    obtain ⟨d, rfl⟩ : ∃ k, d = k + 1 := ⟨d - 1, by omega⟩
    unfold goE
    rw [if_neg (by omega), List.append_nil]
  | y :: l, d, p, s, acc, hl, hs, hp, hd => by
    obtain ⟨d, rfl⟩ : ∃ k, d = k + 1 := ⟨d - 1, by omega⟩
    have hy := hl y (List.mem_cons_self ..)
    have hlen := congrArg List.length hs
    rw [List.length_drop] at hlen
    unfold encS at hs hlen
    simp only [List.length_cons, List.length_append] at hlen
    have g0 : s[p]? = some (u8of y.type_) := by
      have : (s.drop p)[0]? = some (u8of y.type_) := by rw [hs]; rfl
      rwa [List.getElem?_drop] at this
    have g1 : s[p + 1]? = some (u8of (y.data.length : Int)) := by
      have : (s.drop p)[1]? = some (u8of (y.data.length : Int)) := by rw [hs]; rfl
      rwa [List.getElem?_drop] at this
    have b0 : bt s p = y.type_ := by
      unfold bt; rw [g0]; show ((u8of y.type_).toNat : Int) = _; rw [u8of_int]; omega
    have b1 : bt s (p + 1) = y.data.length := by
      unfold bt; rw [g1]; show ((u8of (y.data.length : Int)).toNat : Int) = _; rw [u8of_int]; omega
    have hd2 : s.drop (p + 2) = y.data ++ encS l := by
      rw [← List.drop_drop, hs]; rfl
    have hc : cut_ s ((p : Int) + 2) (y.data.length : Int) = y.data := by
      have := cut_dropN s (p + 2) y.data.length
      rw [show ((p + 2 : Nat) : Int) = (p : Int) + 2 by omega] at this
      rw [this, hd2, List.take_left]
    unfold goE
    rw [b0, b1, if_pos (by omega), if_neg (by omega), hc, Int.toNat_natCast]
    have := goE_back l d (p + 2 + y.data.length) s (acc ++ [⟨y.type_, y.data⟩]) (fun z hz => hl z (List.mem_cons_of_mem _ hz)) (by rw [← List.drop_drop, hd2, List.drop_left]) (by omega) (by omega)
    rw [this]
    simp
theorem getE_back {l : List Sub} (h : AllE l) : getE (encS l) = (l, 0, 0) := by
  have := goE_back l ((encS l).length + 1) 0 (encS l) [] h rfl (by omega) (by omega)
  rw [List.nil_append] at this
  exact this
end Go.VP
set_option linter.unusedVariables false
set_option linter.unusedSimpArgs false
set_option maxRecDepth 100000
namespace Go.VP
open Go Go.VI
def z16 : Bs := [0, 0, 0, 0, 0, 0, 0, 0, 0, 0, 0, 0, 0, 0, 0, 0]
theorem zeros16 : g_octet_Zeros (16, ()) = some ((z16, ()), ()) := by
  rw [g_octet_Zeros_eq, if_pos (by unfold roomI; decide)]; rfl
theorem none12_is : g_ref12_none () = some ((z16, ()), ()) := by
  rw [g_ref12_none_eq, g_ref02_Zeros_eq, ifn (by decide), if_pos (by unfold roomI; decide), Option.bind_some]; rfl
def preB (a : Bs) (n : Int) : Bool := decide (0 ≤ n ∧ n ≤ 128) && cleanB a n
theorem pright16_is {a : Bs} {n : Int} (h : a.length = 16) (hn : IntKind.has .i64 n) : g_prefix_Right (a, n, ()) = some ((preB a n, ()), ()) := by
  have h8 : IntKind.wrap .i64 (8 * (a.length : Int)) = 128 := by rw [h]; rfl
  rw [g_prefix_Right_eq, h8]
  unfold preB
  refine bq_step (fun q => by omega) (fun _ => ?_)
  refine bq_step (fun _ => ?_) (fun q => by omega)
  refine dq_step' (fun h0 => ?_) (fun h0 => ?_)
  · refine dq_step' (fun h1 => ?_) (fun h1 => ?_)
    · rw [clean_is (by omega) hn, Option.bind_some, decide_eq_true ⟨h0, h1⟩, Bool.true_and]
    · rw [decide_eq_false (fun q => h1 q.2), Bool.false_and]
  · rw [decide_eq_false (fun q => h0 q.1), Bool.false_and]
theorem rright16_is {a : Bs} {n : Int} (h : a.length = 16) : g_ref04_Right (a, n, ()) = some ((preB a n, ()), ()) := by
  rw [rright4_is (by omega) (.inr h), h]; rfl
structure NgR (m : Msg) : Prop where
  kind : m.kind = 2
  bare : bareB m = true
  cmd : m.cmd = 1 ∨ m.cmd = 2
  tag : 0 ≤ m.tag ∧ m.tag < 65536
  metric : 1 ≤ m.metric ∧ m.metric ≤ 16
  len : m.prefix_.length = 16
  pre : preB m.prefix_ m.plen = true
  next : m.next = z16 ∨ linkB m.next = true
open Classical in
noncomputable def ngB (m : Msg) : Bool := decide (NgR m)
theorem ngR_iff {m : Msg} : ngB m = true ↔ NgR m := by simp [ngB]
theorem ngB_no {m : Msg} (h : ¬ NgR m) : ngB m = false := by simp [ngB, h]
theorem NgR.next16 {m : Msg} (h : NgR m) : m.next.length = 16 := by
  rcases h.next with e | e
  · rw [e]; rfl
  · exact (linkB_len e).1
theorem NgR.plen {m : Msg} (h : NgR m) : 0 ≤ m.plen ∧ m.plen ≤ 128 := by
  have := h.pre; unfold preB at this; simp at this; exact this.1
structure GoodG (m : Msg) : Prop where
  tag : IntKind.has .i64 m.tag
  plen : IntKind.has .i64 m.plen
  cmd : IntKind.has .i64 m.cmd
  list : m.list.length ≤ 1000000000
  subs : m.subs.length ≤ 1000000000
theorem link_or {m : Msg} {r : Option ((Bool × Unit) × Unit)} (h : r = some ((linkB m.next, ()), ())) (hk : NgR m ↔ (m.next = z16 ∨ linkB m.next = true)) : (if (m.next == z16) = true then (some ((true, ()), ()) : Option ((Bool × Unit) × Unit)) else r.bind fun r5 => some ((r5.1.1, ()), ())) = some ((ngB m, ()), ()) := by
  refine be_step (fun q => by rw [ngR_iff.2 (hk.2 (.inl q))]) (fun q => ?_)
  rw [h, Option.bind_some]
  cases hl : linkB m.next with
  | true => rw [ngR_iff.2 (hk.2 (.inr hl))]
  | false => rw [ngB_no (fun x => by rcases hk.1 x with e | e; exact q e; rw [hl] at e; cases e)]
theorem rngright_is {m : Msg} (g : GoodG m) : g_ref12_Right (m, ()) = some ((ngB m, ()), ()) := by
  rw [g_ref12_Right_eq]
  have no : ¬ NgR m → (some ((false, ()), ()) : Option ((Bool × Unit) × Unit)) = some ((ngB m, ()), ()) := fun h => by rw [ngB_no h]
  refine bq_step (fun hk => ?_) (fun q => no (fun h => q h.kind))
  rw [rbare_is g.list g.subs, Option.bind_some]
  dsimp only
  cases hb : bareB m with
  | false => rw [iff_]; exact no (fun h => by rw [h.bare] at hb; cases hb)
  | true =>
    rw [ift]
    refine dq_step' (fun h1 => ?_) (fun q => no (fun h => by have := h.cmd; omega))
    refine dq_step' (fun h2 => ?_) (fun q => no (fun h => by have := h.cmd; omega))
    refine dq_step' (fun h3 => ?_) (fun q => no (fun h => by have := h.tag; omega))
    refine dq_step' (fun h4 => ?_) (fun q => no (fun h => by have := h.tag; omega))
    refine dq_step' (fun h5 => ?_) (fun q => no (fun h => by have := h.metric; omega))
    refine dq_step' (fun h6 => ?_) (fun q => no (fun h => by have := h.metric; omega))
    refine bq_step (fun h7 => ?_) (fun q => no (fun h => by have := h.len; omega))
    rw [rright16_is (by omega), Option.bind_some]
    dsimp only
    cases hp : preB m.prefix_ m.plen with
    | false => rw [iff_]; exact no (fun h => by rw [h.pre] at hp; cases hp)
    | true =>
      rw [ift, none12_is, Option.bind_some]
      exact link_or (rlink_is _) ⟨fun h => h.next, fun h => ⟨hk, hb, by omega, by omega, by omega, by omega, hp, h⟩⟩
abbrev EntN := S_api_Entry
def entN (s : Bs) : EntN := ⟨bt s 18, num (cut_ s 16 2), s.take 16, [], [], bt s 19⟩
theorem bt_drop (s : Bs) (k i : Nat) : bt (s.drop k) i = bt s (k + i) := by unfold bt; rw [List.getElem?_drop]
theorem rteget_is {s : Bs} (h : s.length = 20) : g_rte_Get (s, ()) = some ((entN s, true, ()), ()) := by
  have hl : (s.drop 16).length = 4 := by rw [List.length_drop]; omega
  have b0 := bt_rng (s.drop 16) 0
  have b1 := bt_rng (s.drop 16) 1
  rw [g_rte_Get_eq]
  refine ne_step (fun q => by omega) (fun _ => ?_)
  rw [if_pos (by omega), if_pos (by omega), get_bt (i := 0) (by omega), Option.bind_some, get_bt (i := 1) (by omega), Option.bind_some, get_bt (i := 2) (by omega), Option.bind_some, get_bt (i := 3) (by omega), Option.bind_some, w64n, w64n, w64n, w64n]
  show some ((S_api_Entry.mk (bt (s.drop 16) 2) (ibits .or .i64 (ishl .i64 (bt (s.drop 16) 0) 8) (bt (s.drop 16) 1)) (s.take 16) [] [] (bt (s.drop 16) 3), true, ()), ()) = _
  rw [ib_or (by omega) (by omega), bt_drop, bt_drop, bt_drop, bt_drop]
  unfold entN
  rw [show ((16 : Int)) = ((16 : Nat) : Int) from rfl, num2 (by omega)]
def entG (a : Bs) (t f m : Int) : Bs := a ++ (be 2 t ++ [u8of f, u8of m])
theorem entG_len {a : Bs} (h : a.length = 16) (t f m : Int) : (entG a t f m).length = 20 := by unfold entG; simp [be_length]; omega
theorem be1 {n : Int} (h : 0 ≤ n) : be 1 n = [u8of n] := by
  show be 0 (n / 256) ++ [u8of (n % 256)] = _
  rw [u8of_emod' h]; rfl
theorem rput11_is {a : Bs} {t f m : Int} (ha : a.length = 16) (ht : 0 ≤ t ∧ t < 65536) (hf : 0 ≤ f ∧ f < 256) (hm : 0 ≤ m ∧ m < 256) : g_ref11_Put (⟨f, t, a, [], [], m⟩, ()) = some ((entG a t f m, true, ()), ()) := by
  have f1 : ∀ {n : Int}, 0 ≤ n ∧ n < 256 → oput n 1 = (be 1 n, true) := fun h => by unfold oput fitsB; rw [if_pos (by rw [decide_eq_true_eq]; omega)]
  have f2 : oput t 2 = (be 2 t, true) := by unfold oput; rw [if_pos (fitsB2.2 ht)]
  have p2 : g_ref02_Put (t, 2, ()) = some (((oput t 2).1, (oput t 2).2, ()), ()) := rput_is (k := 2) (has64.2 (by omega)) (by omega) (by omega)
  have p1 : ∀ {n : Int}, 0 ≤ n ∧ n < 256 → g_ref02_Put (n, 1, ()) = some (((oput n 1).1, (oput n 1).2, ()), ()) := fun h => rput_is (k := 1) (has64.2 (by omega)) (by omega) (by omega)
  have l1 : ∀ n, (be 1 n).length = 1 := be_length 1
  have l2 : ∀ n, (be 2 n).length = 2 := be_length 2
  rw [g_ref11_Put_eq]
  dsimp only
  rw [p2, Option.bind_some, p1 hf, Option.bind_some, p1 hm, Option.bind_some, f2, f1 hf, f1 hm]
  dsimp only
  rw [ifnt, ifnt, ifnt]
  refine ne_step (fun q => by omega) (fun _ => ?_)
  rw [if_neg (by simp), if_neg (by simp), if_pos (maxB_of (by rw [l2]; omega)), if_pos (maxB_of (by simp [l2, l1]; omega)), if_pos (maxB_of (by simp [l2, l1]; omega)), be1 hf.1, be1 hm.1]
  unfold entG
  simp
end Go.VP
set_option linter.unusedVariables false
set_option linter.unusedSimpArgs false
set_option maxRecDepth 100000
namespace Go.VP
open Go Go.VI
def headG (b : Bs) : Int × Int :=
  if 65535 < b.length then (65535, 10) else if b.length < 4 then (b.length, 2) else if ¬ (bt b 0 = 1 ∨ bt b 0 = 2) then (0, 4) else if ¬ bt b 1 = 1 then (1, 4)
  else if ¬ (bt b 2 = 0 ∧ bt b 3 = 0) then (2, 5) else if ((b.length : Int) - 4) % 20 ≠ 0 then (b.length, 2) else (0, 0)
theorem headG_ok {b : Bs} (h : (headG b).2 = 0) : 4 ≤ b.length ∧ b.length ≤ 65535 ∧ (bt b 0 = 1 ∨ bt b 0 = 2) ∧ bt b 1 = 1 ∧ bt b 2 = 0 ∧ bt b 3 = 0 ∧ ((b.length : Int) - 4) % 20 = 0 := by
  unfold headG at h
  repeat (split at h; · simp at h)
  rename_i h1 h2 h3 h4 h5 h6
  exact ⟨by omega, by omega, by omega, by omega, by omega, by omega, by omega⟩
theorem headG_place {b : Bs} : 0 ≤ (headG b).1 ∧ (headG b).1 ≤ b.length := by
  unfold headG
  repeat (split; · dsimp only; omega)
  dsimp only; omega
theorem nghead_is {b : Bs} (hb : b.length ≤ 1000000000) : g_ripng_head (b, ()) = some (((headG b).1, (headG b).2, ()), ()) := by
  rw [g_ripng_head_eq]
  refine dq_step (fun h => by unfold headG; rw [if_pos (by omega)]) (fun hl => ?_)
  refine dq_step (fun h => by unfold headG; rw [if_neg (by omega), if_pos (by omega)]) (fun h4 => ?_)
  have h4' : ¬ b.length < 4 := by omega
  obtain ⟨w, x, y, z, r, rfl⟩ := four_of h4'
  have e0 : bt (w :: x :: y :: z :: r) 0 = (w.toNat : Int) := rfl
  have e1 : bt (w :: x :: y :: z :: r) 1 = (x.toNat : Int) := rfl
  have e2 : bt (w :: x :: y :: z :: r) 2 = (y.toNat : Int) := rfl
  have e3 : bt (w :: x :: y :: z :: r) 3 = (z.toNat : Int) := rfl
  rw [show (w :: x :: y :: z :: r)[0]? = some w from rfl, show (w :: x :: y :: z :: r)[1]? = some x from rfl, show (List.take 4 (w :: x :: y :: z :: r)).drop 2 = [y, z] from rfl]
  simp only [Option.bind_some]
  have hL : (4 : Int) ≤ ((w :: x :: y :: z :: r).length : Int) := by omega
  have hz : zeroB [y, z] = true ↔ ((y.toNat : Int) = 0 ∧ (z.toNat : Int) = 0) := by
    simp only [zeroB, List.all_cons, List.all_nil, Bool.and_true, Bool.and_eq_true, beq_iff_eq]
    constructor
    · rintro ⟨rfl, rfl⟩; exact ⟨rfl, rfl⟩
    · rintro ⟨h1, h2⟩; exact ⟨u8_eq h1, u8_eq h2⟩
  generalize hLL : (w :: x :: y :: z :: r).length = L at *
  have tail : ((w.toNat : Int) = 1 ∨ (w.toNat : Int) = 2) → (if ((x.toNat : Int) != 1) = true then some ((1, 4, ()), ()) else (if 0 ≤ (2 : Int) ∧ (2 : Int) ≤ (4 : Int) ∧ (4 : Int) ≤ (L : Int) then ((g_octet_Zero ([y, z], ())).bind fun r4 => (if (!r4.1.1) = true then some ((2, 5, ()), ()) else (if ((L : Int).tmod 20 != 4) = true then some (((L : Int), 2, ()), ()) else some ((0, 0, ()), ())))) else none)) = some (((headG (w :: x :: y :: z :: r)).1, (headG (w :: x :: y :: z :: r)).2, ()), ()) := by
    intro ha
    unfold headG
    rw [hLL, if_neg (show ¬ 65535 < L by omega), if_neg (show ¬ L < 4 by omega), if_neg (show ¬ ¬ (bt (w :: x :: y :: z :: r) 0 = 1 ∨ bt (w :: x :: y :: z :: r) 0 = 2) by rw [e0]; exact fun c => c ha)]
    refine ne_step (fun h => ?_) (fun h1 => ?_)
    · rw [if_pos (show ¬ bt (w :: x :: y :: z :: r) 1 = 1 by rw [e1]; exact h)]
    rw [if_neg (show ¬ ¬ bt (w :: x :: y :: z :: r) 1 = 1 by rw [e1]; exact fun c => c h1), if_pos ⟨by omega, by omega, hL⟩, zero_is (by simp), Option.bind_some]
    refine nb_step (fun h => ?_) (fun hzz => ?_)
    · rw [if_pos (show ¬ (bt (w :: x :: y :: z :: r) 2 = 0 ∧ bt (w :: x :: y :: z :: r) 3 = 0) by rw [e2, e3, ← hz]; dsimp only at h; rw [h]; simp)]
    rw [if_neg (show ¬ ¬ (bt (w :: x :: y :: z :: r) 2 = 0 ∧ bt (w :: x :: y :: z :: r) 3 = 0) by rw [e2, e3]; exact fun c => c (hz.1 hzz)), Int.tmod_eq_emod_of_nonneg (by omega)]
    refine ne_step (fun h => ?_) (fun h5 => ?_)
    · rw [if_pos (show ((L : Int) - 4) % 20 ≠ 0 by omega)]
    · rw [if_neg (show ¬ ((L : Int) - 4) % 20 ≠ 0 by omega)]
  refine ne_step (fun ha => ?_) (fun ha => tail (.inl ha))
  refine ne_step (fun hb => ?_) (fun ha2 => tail (.inr ha2))
  unfold headG
  rw [hLL, if_neg (show ¬ 65535 < L by omega), if_neg (show ¬ L < 4 by omega), if_pos (show ¬ (bt (w :: x :: y :: z :: r) 0 = 1 ∨ bt (w :: x :: y :: z :: r) 0 = 2) by rw [e0]; omega)]
def errN (e : EntN) : Int := if e.metric = 255 then (if e.tag = 0 ∧ e.family = 0 then 0 else 5) else if ¬ preB e.addr e.family = true then 7 else if e.metric < 1 ∨ 16 < e.metric then 6 else 0
def nextN (nx : Bs) (e : EntN) : Bs := if e.metric = 255 then (if linkB e.addr = true then e.addr else z16) else nx
def msgN (c : Int) (nx : Bs) (e : EntN) : Msg := S_api_Msg.mk 2 c 0 [] 0 0 e.addr e.family e.tag nx e.metric [] 0 0 0 0 0 0 0 [] [] [] 0 [] []
def outN (c : Int) (nx : Bs) (e : EntN) : List Msg := if e.metric = 255 then [] else [msgN c nx e]
structure EntKN (e : EntN) : Prop where
  addr : e.addr.length = 16
  tag : 0 ≤ e.tag ∧ e.tag < 65536
  fam : 0 ≤ e.family ∧ e.family < 256
  met : 0 ≤ e.metric ∧ e.metric < 256
theorem entN_ok {s : Bs} (h : s.length = 20) : EntKN (entN s) := by
  have h1 := bt_rng s 18
  have h2 := bt_rng s 19
  have h3 := num_rng (cut_ s 16 2)
  have hl : (cut_ s 16 2).length = 2 := by have := cut_length (s := s) (p := 16) (n := 2) (by omega) (by omega) (by omega); omega
  rw [hl] at h3
  exact ⟨by show (s.take 16).length = 16; rw [List.length_take]; omega, by show 0 ≤ num (cut_ s 16 2) ∧ num (cut_ s 16 2) < 65536; exact ⟨h3.1, by have := h3.2; omega⟩, h1, h2⟩
theorem or_zero {x y : Int} (hx : 0 ≤ x ∧ x < 65536) (hy : 0 ≤ y ∧ y < 256) : ibits .or .i64 x y = 0 ↔ (x = 0 ∧ y = 0) := by
  obtain ⟨a, rfl⟩ : ∃ a : Nat, x = a := ⟨x.toNat, by omega⟩
  obtain ⟨b, rfl⟩ : ∃ b : Nat, y = b := ⟨y.toNat, by omega⟩
  unfold ibits
  show IntKind.wrap .i64 (((BitVec.ofInt 64 (a : Int) ||| BitVec.ofInt 64 (b : Int)).toNat : Nat) : Int) = 0 ↔ _
  have h1 : a ||| b < 2 ^ 16 := Nat.or_lt_two_pow (by omega) (by omega)
  rw [BitVec.toNat_or, BitVec.ofInt_natCast, BitVec.ofInt_natCast, BitVec.toNat_ofNat, BitVec.toNat_ofNat, Nat.mod_eq_of_lt (by omega), Nat.mod_eq_of_lt (by omega), w64 (by omega) (by omega)]
  constructor
  · intro h
    have h0 : a ||| b = 0 := by omega
    rw [Nat.or_eq_zero_iff] at h0
    omega
  · intro h
    have e1 : a = 0 := by omega
    have e2 : b = 0 := by omega
    subst e1; subst e2; rfl
theorem nghop_is {c : Int} {nx : Bs} {out : List Msg} {e : EntN} (h : EntKN e) (hm : e.metric = 255) : g_ripng_reader_hop (⟨c, nx, out⟩, e, ()) = some ((errN e, ()), (⟨c, if errN e = 0 then nextN nx e else nx, out⟩, ())) := by
  rw [g_ripng_reader_hop_eq]
  have hz := or_zero h.tag h.fam
  unfold errN nextN
  rw [if_pos hm, if_pos hm]
  refine ne_step (fun q => ?_) (fun q => ?_)
  · rw [if_neg (fun c => q (hz.2 c))]; try rfl
  · rw [hz] at q
    rw [if_pos q, zeros16, Option.bind_some, link_is, Option.bind_some]
    dsimp only
    cases linkB e.addr <;> rfl
theorem ngentry_is {c : Int} {nx : Bs} {out : List Msg} {e : EntN} (h : EntKN e) (hr : out.length ≤ 10000) : g_ripng_reader_entry (⟨c, nx, out⟩, e, ()) = some ((errN e, ()), (⟨c, if errN e = 0 then nextN nx e else nx, if errN e = 0 then out ++ outN c nx e else out⟩, ())) := by
  rw [g_ripng_reader_entry_eq]
  refine bq_step (fun hm => ?_) (fun hm => ?_)
  · rw [nghop_is h hm, Option.bind_some]
    have : outN c nx e = [] := by unfold outN; rw [if_pos hm]
    rw [this, List.append_nil, ite_self]
  · have hn : nextN nx e = nx := by unfold nextN; rw [if_neg hm]
    have ho : outN c nx e = [msgN c nx e] := by unfold outN; rw [if_neg hm]
    rw [hn, ho, ite_self]
    have hf : IntKind.has .i64 e.family := has64.2 (by have := h.fam; omega)
    rw [pright16_is h.addr hf, Option.bind_some]
    unfold errN
    rw [if_neg hm]
    refine nb_step (fun q => ?_) (fun q => ?_)
    · dsimp only at q
      rw [if_pos (show ¬ preB e.addr e.family = true by rw [q]; simp)]; try rfl
    · dsimp only at q
      rw [if_neg (show ¬ ¬ preB e.addr e.family = true by rw [q]; simp)]
      refine dq_step (fun q1 => ?_) (fun q1 => ?_)
      · rw [if_pos (show e.metric < 1 ∨ 16 < e.metric from .inl q1)]; try rfl
      refine dq_step (fun q2 => ?_) (fun q2 => ?_)
      · rw [if_pos (show e.metric < 1 ∨ 16 < e.metric from .inr q2)]; try rfl
      rw [if_neg (show ¬ (e.metric < 1 ∨ 16 < e.metric) by omega)]
      show (if roomB ((out.length + [msgN c nx e].length) * bo_api_Msg) = true then some ((0, ()), ((S_ripng_reader.mk c nx (out ++ [msgN c nx e])), ())) else none) = _
      rw [if_pos (roomB_of (Nat.le_trans (Nat.mul_le_mul (show out.length + [msgN c nx e].length ≤ 10001 by simp; omega) msgBo) (by decide)))]
      rfl
def goN (c : Int) (b : Bs) : Nat → Nat → Bs → List Msg → List Msg × Int × Int
  | 0, _, _, acc => if acc = [] then ([], b.length, 8) else (acc, 0, 0)
  | k + 1, p, nx, acc => if errN (entN (cut_ b p 20)) ≠ 0 then ([], (p : Int), errN (entN (cut_ b p 20))) else goN c b k (p + 20) (nextN nx (entN (cut_ b p 20))) (acc ++ outN c nx (entN (cut_ b p 20)))
theorem outN_len (c : Int) (nx : Bs) (e : EntN) : (outN c nx e).length ≤ 1 := by unfold outN; split <;> simp
theorem ngparse_loop {n : Nat} {b : Bs} {c : Int} (hb : b.length ≤ 65535) : ∀ (k m p : Nat) (nx : Bs) (acc : List Msg), p + 20 * k = b.length → k < m → acc.length + k ≤ 10000 →
    L_ripng_Parse_0 n m b p c nx acc = some (trip (goN c b k p nx acc), ()) := by
  intro k
  induction k with
  | zero =>
    intro m p nx acc h hm ha
    obtain ⟨m, rfl⟩ : ∃ k, m = k + 1 := ⟨m - 1, by omega⟩
    rw [L_ripng_Parse_0_eq, ifn (by omega), goN]
    refine bq_step (fun q => ?_) (fun q => ?_)
    · rw [if_pos ((len_nil acc).1 q)]; try rfl
    · rw [if_neg (fun q' => q ((len_nil acc).2 q'))]; try rfl
  | succ k ih =>
    intro m p nx acc h hm ha
    obtain ⟨m, rfl⟩ : ∃ k, m = k + 1 := ⟨m - 1, by omega⟩
    have hl : (cut_ b p 20).length = 20 := cut_len (n := 20) (by omega)
    have hol := outN_len c nx (entN (cut_ b p 20))
    rw [L_ripng_Parse_0_eq, ifd (by omega), w64 (by omega) (by omega), if_pos (by omega), show (List.take ((p : Int) + 20).toNat b).drop ((p : Int)).toNat = cut_ b p 20 from rfl, rteget_is hl, Option.bind_some]
    dsimp only
    rw [ngentry_is (entN_ok hl) (by omega), Option.bind_some, goN]
    refine ne_step (fun he => ?_) (fun he => ?_)
    · rw [if_pos he]; try rfl
    · dsimp only at he
      have := ih m (p + 20) (nextN nx (entN (cut_ b p 20))) (acc ++ outN c nx (entN (cut_ b p 20))) (by omega) (by omega) (by rw [List.length_append]; omega)
      rw [show ((p + 20 : Nat) : Int) = (p : Int) + 20 by omega] at this
      rw [if_neg (show ¬ errN (entN (cut_ b p 20)) ≠ 0 by omega), ← this]
      dsimp only
      rw [if_pos he, if_pos he]
noncomputable def parseN (b : Bs) : List Msg × Int × Int := if (headG b).2 ≠ 0 then ([], headG b) else goN (bt b 0) b ((b.length - 4) / 20) 4 z16 []
theorem ngparse_is {b : Bs} (hb : b.length ≤ 1000000000) : g_ripng_Parse (b, ()) = some (trip (parseN b), ()) := by
  show h_ripng_Parse fuel _ = _
  rw [h_ripng_Parse_eq, nghead_is hb, Option.bind_some]
  unfold parseN
  refine ne_step (fun h => ?_) (fun h => ?_)
  · rw [if_pos h]; try rfl
  · dsimp only at h
    obtain ⟨h1, h2, h3, h4, h5, h6, h7⟩ := headG_ok h
    rw [if_neg (show ¬ (headG b).2 ≠ 0 by omega), get_bt (i := 0) (by omega), Option.bind_some, zeros16, Option.bind_some, w64n]
    exact ngparse_loop (n := fuel) h2 ((b.length - 4) / 20) fuel 4 z16 [] (by omega) (fuel_ge (by omega)) (by simp; omega)
end Go.VP
set_option linter.unusedVariables false
set_option linter.unusedSimpArgs false
set_option maxRecDepth 100000
namespace Go.VP
open Go Go.VI
def hopL (nx : Bs) (m : Msg) : Bs := if m.next = nx then [] else entG m.next 0 0 255
def lineN (nx : Bs) (m : Msg) : Bs := hopL nx m ++ entG m.prefix_ m.tag m.plen m.metric
theorem lineN_len {nx : Bs} {m : Msg} (h : NgR m) : (lineN nx m).length = if m.next = nx then 20 else 40 := by
  unfold lineN hopL
  split <;> simp [entG_len h.len, entG_len h.next16]
def encN (c : Int) : List Msg → Nat → Bs → Bs → Bs × Int × Int
  | [], _, acc, _ => (acc, 0, 0)
  | m :: r, i, acc, nx => if m.cmd ≠ c then ([], (i : Int), 7) else if 65535 < (acc ++ lineN nx m).length then ([], (i : Int), 10) else encN c r (i + 1) (acc ++ lineN nx m) m.next
theorem rngenc_loop {n : Nat} {l : List Msg} {f : Msg} (hf : l[0]? = some f) (hok : ∀ m ∈ l, NgR m) (hl : l.length ≤ 1000000) : ∀ (d m i : Nat) (acc nx : Bs), i + d = l.length → d < m → acc.length ≤ 65535 →
    L_ref12_Encode_1 n m l acc nx i = some (trip (encN f.cmd (l.drop i) i acc nx), ()) := by
  intro d
  induction d with
  | zero =>
    intro m i acc nx hd hm ha
    obtain ⟨m, rfl⟩ : ∃ k, m = k + 1 := ⟨m - 1, by omega⟩
    rw [L_ref12_Encode_1_eq, ifn (by omega), List.drop_eq_nil_of_le (by omega)]; try rfl
  | succ d ih =>
    intro m i acc nx hd hm ha
    obtain ⟨m, rfl⟩ : ∃ k, m = k + 1 := ⟨m - 1, by omega⟩
    have hi : i < l.length := by omega
    have ho := hok _ (List.getElem_mem hi)
    have hp : 0 ≤ (i : Int) := by omega
    have hpl := ho.plen
    have hme := ho.metric
    have hln := lineN_len (nx := nx) ho
    have go : (acc ++ lineN nx l[i]).length ≤ 65535 → L_ref12_Encode_1 n m l (acc ++ lineN nx l[i]) l[i].next ((i : Int) + 1) = some (trip (encN f.cmd (l.drop (i + 1)) (i + 1) (acc ++ lineN nx l[i]) l[i].next), ()) := fun h => by
      have := ih m (i + 1) (acc ++ lineN nx l[i]) l[i].next (by omega) (by omega) h
      rw [show ((i + 1 : Nat) : Int) = (i : Int) + 1 by omega] at this
      exact this
    rw [L_ref12_Encode_1_eq, ifd (by omega), List.drop_eq_getElem_cons hi, encN]
    simp only [if_pos hp, Int.toNat_natCast, List.getElem?_eq_getElem hi, Option.bind_some, hf]
    rw [rput11_is ho.next16 (by omega) (by omega) (by omega), rput11_is ho.len ho.tag (by omega) (by omega)]
    simp only [Option.bind_some]
    generalize hN : l[i].next = nn at *
    have hnl : nn.length = 16 := by rw [← hN]; exact ho.next16
    refine ne_step (fun h => ?_) (fun h => ?_)
    · rw [if_pos h]; try rfl
    rw [if_neg (show ¬ l[i].cmd ≠ f.cmd from fun c => c h), w64 (by omega) (by omega)]
    unfold lineN hopL at *
    rw [hN] at *
    refine nq_step (fun q => ?_) (fun q => ?_)
    · rw [if_neg q, if_pos (maxB_of (by rw [entG_len hnl]; omega)), if_pos (maxB_of (by simp only [List.length_append, entG_len hnl, entG_len ho.len]; omega)), List.append_assoc]
      rw [if_neg q] at go
      refine dq_step (fun h => ?_) (fun h => ?_)
      · rw [if_pos (by omega)]; try rfl
      · rw [if_neg (by omega)]; exact go (by omega)
    · rw [if_pos q, if_pos (maxB_of (by rw [entG_len ho.len]; omega))]
      rw [if_pos q] at go
      refine dq_step (fun h => ?_) (fun h => ?_)
      · rw [if_pos (by simp only [List.nil_append]; omega)]; try rfl
      · rw [if_neg (by simp only [List.nil_append]; omega), ← q]; exact go (by simp only [List.nil_append]; omega)
def badP (f : Msg → Bool) : List Msg → Nat → Option Nat
  | [], _ => none
  | m :: r, i => if f m = true then badP f r (i + 1) else some i
theorem badP_none {f : Msg → Bool} : ∀ {l : List Msg} {i : Nat}, badP f l i = none → ∀ m ∈ l, f m = true
  | [], _, _, m, hm => by cases hm
  | x :: r, i, h, m, hm => by
    unfold badP at h
    split at h
    · rename_i hx
      rcases List.mem_cons.1 hm with rfl | hm
      · exact hx
      · exact badP_none h m hm
    · cases h
theorem badP_ok {f : Msg → Bool} : ∀ {l : List Msg} {i : Nat}, (∀ m ∈ l, f m = true) → badP f l i = none
  | [], _, _ => rfl
  | x :: r, i, h => by
    unfold badP; rw [if_pos (h x (by simp))]; exact badP_ok (fun m hm => h m (by simp [hm]))
noncomputable def encNg (l : List Msg) : Bs × Int × Int := match badP ngB l 0 with
  | some i => ([], (i : Int), 1)
  | none => match l with
    | [] => ([], 0, 8)
    | f :: _ => encN f.cmd l 0 [u8of f.cmd, 1, 0, 0] z16
theorem rngenc_is {l : List Msg} (g : ∀ m ∈ l, GoodG m) (hl : l.length ≤ 1000000) : g_ref12_Encode (l, ()) = some (trip (encNg l), ()) := by
  show h_ref12_Encode fuel (l, ()) = _
  rw [h_ref12_Encode_eq]
  have main : ∀ (d m i : Nat), i + d = l.length → d < m → badP ngB l 0 = badP ngB (l.drop i) i → L_ref12_Encode_0 fuel m l i = some (trip (encNg l), ()) := by
    intro d
    induction d with
    | zero =>
      intro m i hd hm hb
      obtain ⟨m, rfl⟩ : ∃ k, m = k + 1 := ⟨m - 1, by omega⟩
      rw [List.drop_eq_nil_of_le (by omega)] at hb
      have hn : badP ngB l 0 = none := hb
      have hok := badP_none hn
      rw [L_ref12_Encode_0_eq, ifn (by omega)]
      cases l with
      | nil => rfl
      | cons f r =>
        have hf := ngR_iff.1 (hok f (by simp))
        have he : encNg (f :: r) = encN f.cmd (f :: r) 0 [u8of f.cmd, 1, 0, 0] z16 := by unfold encNg; rw [hn]
        have L := rngenc_loop (n := fuel) (f := f) (l := f :: r) rfl (fun m hm => ngR_iff.1 (hok m hm)) hl (f :: r).length fuel 0 [u8of f.cmd, 1, 0, 0] z16 (by omega) (fuel_ge (by omega)) (by simp)
        have hc := hf.cmd
        have r1 : g_ref02_Of (f.cmd, 1, ()) = some (([u8of f.cmd], ()), ()) := by
          rw [show g_ref02_Of (f.cmd, 1, ()) = some (((oput f.cmd 1).1, ()), ()) from rof_is (k := 1) (has64.2 (by omega)) (by omega) (by omega)]
          unfold oput fitsB; rw [if_pos (by rw [decide_eq_true_eq]; omega), be1 (by omega)]
        rw [he, if_neg (by simp; omega), show (f :: r)[0]? = some f from rfl, Option.bind_some, r1, Option.bind_some]
        dsimp only
        rw [if_pos (maxB_of (by simp)), none12_is, Option.bind_some]
        exact L
    | succ d ih =>
      intro m i hd hm hb
      obtain ⟨m, rfl⟩ : ∃ k, m = k + 1 := ⟨m - 1, by omega⟩
      have hi : i < l.length := by omega
      rw [List.drop_eq_getElem_cons hi, badP] at hb
      rw [L_ref12_Encode_0_eq, ifd (by omega), if_pos (by omega), Int.toNat_natCast, bind_at hi, rngright_is (g _ (List.getElem_mem hi)), Option.bind_some]
      dsimp only
      cases ho : ngB l[i] with
      | true =>
        rw [if_pos ho] at hb
        have := ih m (i + 1) (by omega) (by omega) hb
        rw [ifnt, w64 (by omega) (by omega)]
        exact this
      | false =>
        rw [if_neg (by rw [ho]; simp)] at hb
        rw [ifnf]
        unfold encNg; rw [hb]; try rfl
  exact main l.length fuel 0 (by omega) (fuel_ge (by omega)) rfl
end Go.VP
