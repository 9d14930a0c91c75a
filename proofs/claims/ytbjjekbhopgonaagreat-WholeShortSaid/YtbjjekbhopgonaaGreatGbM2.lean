import Derived.Test.YtbjjekbhopgonaaGreatGbM0
import Derived.Test.YtbjjekbhopgonaaGreatGbM1
import Derived.Test.YtbjjekbhopgonaaGreatGbFQ15
import Derived.Test.YtbjjekbhopgonaaGreatGbFQ16
import Derived.Test.YtbjjekbhopgonaaGreatGbFQ6
import Derived.Test.YtbjjekbhopgonaaGreatGbFQ1
import Derived.Test.YtbjjekbhopgonaaGreatGbFQ2
import Derived.Test.YtbjjekbhopgonaaGreatGbFQ7
import Derived.Test.YtbjjekbhopgonaaGreatGbFQ0
import Derived.Test.YtbjjekbhopgonaaGreatGbFQ8
import Derived.Test.YtbjjekbhopgonaaGreatGbFQ11
import Derived.Test.YtbjjekbhopgonaaGreatGbFQ12
import Derived.Test.YtbjjekbhopgonaaGreatGbFQ4
import Derived.Test.YtbjjekbhopgonaaGreatGbFQ5
import Derived.Test.YtbjjekbhopgonaaGreatGbFGood
import Derived.Test.YtbjjekbhopgonaaGreatGbFQ3
import Derived.Test.YtbjjekbhopgonaaGreatGbFQ9
set_option linter.unusedVariables false
set_option linter.unusedSimpArgs false
set_option maxRecDepth 100000
namespace Go.VP
open Go Go.VI
def Tg' (t : Tlv) : Prop := ((0 ≤ t.type_ ∧ t.type_ ≤ 255) ∧ t.data.length ≤ 255) ∧ t.type_ ≠ 0 ∧ t.type_ ≠ 1
def Says (c : Ctx) (s : Bs) (M : List Msg) (d : Ctx) : Prop := ∀ p, ∃ l, spl p s = .ok l ∧ (∀ t ∈ l, Tg' t) ∧ ∀ acc, foldR c l acc = (acc ++ M, d, 0, 0)
theorem says_nil (c : Ctx) : Says c [] [] c := fun p => ⟨[], spl_nil p, (fun t ht => by cases ht), fun acc => by rw [foldR, List.append_nil]⟩
theorem says_app {c d e : Ctx} {s t : Bs} {M N : List Msg} (h : Says c s M d) (h2 : Says d t N e) : Says c (s ++ t) (M ++ N) e := fun p => by
  obtain ⟨l, l1, l2, l3⟩ := h p
  obtain ⟨k, k1, k2, k3⟩ := h2 (p + s.length)
  refine ⟨l ++ k, by rw [spl_append s p l l1, k1]; rfl, fun x hx => ?_, fun acc => ?_⟩
  · rcases List.mem_append.1 hx with hx | hx
    · exact l2 x hx
    · exact k2 x hx
  · rw [foldR_app l k c acc (by rw [l3]), l3, k3, List.append_assoc]
theorem says_one {c d : Ctx} {t : Int} {b : Bs} {M : List Msg} (ht : 2 ≤ t ∧ t ≤ 255) (hb : b.length ≤ 255) (h : oneR c t b = (d, M, 0)) : Says c (tput t b).1 M d := fun p => by
  have e : (tput t b).1 = u8of t :: u8of b.length :: b := by unfold tput; rw [if_pos ⟨by omega, ht.2, hb⟩]
  refine ⟨[⟨t, p, b⟩], by rw [e]; exact spl_tput ⟨by omega, ht.2⟩ hb, fun x hx => ?_, fun acc => ?_⟩
  · rw [List.mem_singleton] at hx; subst hx
    exact ⟨⟨⟨by show 0 ≤ t; omega, ht.2⟩, hb⟩, by show t ≠ 0; omega, by show t ≠ 1; omega⟩
  · rw [foldR]
    dsimp only
    rw [h, if_neg (by simp), foldR]
theorem resF_yes {c : Ctx} {m : Msg} : resF c (m, true, 0) = (c, [m], 0) := by unfold resF; rw [if_neg (by simp), if_pos rfl]
theorem says_field {c : Ctx} {m : Msg} (h : FieldR m) : Says c (fieldPut m).1 [m] c := by
  obtain ⟨h1, h2, h3⟩ := fieldPut_ok h
  have e : (fieldPut m).1 = (tput (m.kind - 5) (fieldsF m ++ encS m.subs)).1 := by unfold fieldPut; rw [if_pos (fieldR_iff.2 h)]
  rw [e]
  refine says_one (by omega) h2 ?_
  unfold oneR
  rw [if_neg (by omega), if_neg (by omega), if_pos (by omega), fieldG_back h, resF_yes]
theorem says_route {c : Ctx} {m : Msg} (h : RouteR m) : Says c (routePut m).1 [m] c := by
  obtain ⟨h1, h2⟩ := routePut_ok h
  have e : (routePut m).1 = (tput (if m.kind = 13 then 10 else 9) (headF m ++ encS m.subs)).1 := by unfold routePut; rw [if_pos (routeR_iff.2 h)]
  have ht : (if m.kind = 13 then (10 : Int) else 9) = 9 ∨ (if m.kind = 13 then (10 : Int) else 9) = 10 := by split <;> omega
  have hb := routeG_back h
  rw [e]
  generalize (if m.kind = 13 then (10 : Int) else 9) = t at *
  refine says_one (by omega) h2 ?_
  unfold oneR
  rw [if_neg (by omega), if_neg (by omega), if_neg (by omega), if_pos (by omega), hb, resF_yes]
theorem OpqR.eq {m : Msg} (h : OpqR m) : opaqueM m.type_ m.data = m := by
  have hx : bareOf m = some ⟨m.kind, 0, 0, [], 0, 0, [], 0, 0, [], 0, [], 0, 0, 0, 0, 0, 0, 0, [], [], [], m.type_, m.data, []⟩ := by
    have hk := h.kind
    unfold bareOf; rw [if_neg (by omega), if_neg (by omega), if_neg (by omega), if_neg (by omega), if_neg (by omega), if_neg (by omega), if_neg (by omega), if_neg (by omega), if_neg (by omega), if_neg (by omega), if_neg (by omega), if_neg (by omega), if_neg (by omega), if_pos hk]
  have hb := h.bare
  rw [bareB, hx] at hb
  have := eqB_true.1 hb
  rw [h.kind] at this
  exact this
theorem says_opq {c : Ctx} {m : Msg} (h : OpqR m) : Says c (tput m.type_ m.data).1 [m] c := by
  refine says_one (by have := h.ty; omega) (by have := h.len; omega) ?_
  have := h.ty
  unfold oneR
  rw [if_neg (by omega), if_neg (by omega), if_neg (by omega), if_neg (by omega), h.eq]
theorem says_other {c : Ctx} {m : Msg} (h : LeanR m) (hk : m.kind ≠ 11) : Says c (otherF m) [m] c := by
  unfold otherF
  cases h with
  | field h =>
    have := fieldB_kind (fieldR_iff.2 h)
    rw [if_neg (by omega), if_neg (by omega)]; exact says_field h
  | route h =>
    have := routeB_kind (routeR_iff.2 h)
    rw [if_pos this]; exact says_route h
  | upd h => exact absurd h.kind hk
  | opq h =>
    have := h.kind
    rw [if_neg (by omega), if_pos this]; exact says_opq h
theorem says_id {c : Ctx} {s : Bs} (h : s.length = 8) : Says c (idT s) [] (setId c s) := by
  refine says_one (by omega) (by unfold idD; simp; omega) ?_
  unfold oneR
  rw [if_neg (by omega), if_pos (by omega)]
  unfold stepC
  rw [if_pos rfl, idF_back h]
theorem hopD_len {a : Bs} (h : a.length ≤ 16) : (hopD a).length ≤ 255 := by
  unfold hopD; split
  · simp; omega
  split <;> simp <;> omega
theorem says_hop {c : Ctx} {a : Bs} {f : Int} (h : (f = 0 ∧ a.length = 4) ∨ (f = 1 ∧ a.length = 16)) : Says c (hopT a) [] (setN c f a) := by
  refine says_one (by omega) (hopD_len (by omega)) ?_
  unfold oneR
  rw [if_neg (by omega), if_pos (by omega)]
  unfold stepC
  rw [if_neg (by omega), if_pos rfl, hopF_back h]
theorem says_upd {c : Ctx} {m : Msg} {n : Nat} (hc : okC c) (h : UpdR m) (hn : n ≤ (bytesP m).length)
    (hk : n ≠ 0 → preC c m.ae ≠ [] ∧ ((preC c m.ae).drop (baseA m.ae).toNat).take n = (bytesP m).take n)
    (hf : m.metric ≠ 65535 → c.id = m.id ∧ nextC c (famE m.ae) = m.next) : Says c (updT m n) [m] (setP c m.ae m.prefix_) := by
  have hl := updD_len h n
  have hs := encS_small h.subs
  obtain ⟨_, _, _, h16, _, _⟩ := h.pre
  refine says_one (by omega) (by omega) ?_
  unfold oneR
  rw [if_neg (by omega), if_pos (by omega)]
  unfold stepC
  rw [if_neg (by omega), if_neg (by omega), if_pos rfl, updF_upd hc h hn hk hf]
theorem leadC_ok (c : Ctx) (m : Msg) : leadC c m ≠ 0 → preC c m.ae ≠ [] ∧ ((preC c m.ae).drop (baseA m.ae).toNat).take (leadC c m) = (bytesP m).take (leadC c m) := by
  intro h
  by_cases hq : preC c m.ae = []
  · unfold leadC at h; rw [if_pos hq] at h; exact absurd rfl h
  · refine ⟨hq, ?_⟩
    unfold leadC; rw [if_neg hq]; exact leadN_take _ _
theorem nextC_setN {c : Ctx} {f : Int} {a : Bs} (hf : f = 0 ∨ f = 1) : nextC (setN c f a) f = a := by rcases hf with rfl | rfl <;> rfl
theorem LeanR.upd_of {m : Msg} (h : LeanR m) (hk : m.kind = 11) : UpdR m := by
  cases h with
  | field h => have := fieldB_kind (fieldR_iff.2 h); omega
  | route h => have := routeB_kind (routeR_iff.2 h); omega
  | upd h => exact h
  | opq h => have := h.kind; omega
theorem says_update {c : Ctx} {m : Msg} {n : Nat} {i h : Bs} (hc : okC c) (hu : UpdR m) (hm : m.metric ≠ 65535) (hn : n ≤ (bytesP m).length)
    (hk : n ≠ 0 → preC c m.ae ≠ [] ∧ ((preC c m.ae).drop (baseA m.ae).toNat).take n = (bytesP m).take n)
    (hi : i = idT m.id ∨ (i = [] ∧ m.id = c.id)) (hh : (h = hopT m.next ∧ m.next ≠ []) ∨ (h = [] ∧ m.next = nextC c (famE m.ae))) :
    Says c ((i ++ h) ++ updT m n) [m] (setP (setN (setId c m.id) (famE m.ae) m.next) m.ae m.prefix_) := by
  obtain ⟨hf, hop⟩ := hu.fam hm
  have hid := (hu.near hm).2.1
  have hc1 := okC_setId hc hid
  have s1 : Says c i [] (setId c m.id) := by
    rcases hi with rfl | ⟨rfl, e⟩
    · exact says_id hid
    · rw [setId_same e]; exact says_nil c
  have hc2 : okC (setN (setId c m.id) (famE m.ae) m.next) ∧ Says (setId c m.id) h [] (setN (setId c m.id) (famE m.ae) m.next) := by
    rcases hh with ⟨rfl, e⟩ | ⟨rfl, e⟩
    · exact ⟨okC_setN hc1 (hop e), says_hop (hop e)⟩
    · have e' : m.next = nextC (setId c m.id) (famE m.ae) := e
      rw [setN_same hf e']; exact ⟨hc1, says_nil _⟩
  have s3 : Says (setN (setId c m.id) (famE m.ae) m.next) (updT m n) [m] _ := says_upd hc2.1 hu hn hk (fun _ => ⟨rfl, nextC_setN hf⟩)
  have := says_app (says_app s1 hc2.2) s3
  exact this
theorem putL_back {c : Ctx} {m : Msg} (hc : okC c) (h : LeanR m) (he : (putL c m).2.2 = 0) : Says c (putL c m).1 [m] (putL c m).2.1 := by
  unfold putL at he ⊢
  rw [leanR_iff.2 h] at he ⊢
  rw [if_neg (show ¬ (true = false) by simp)] at he ⊢
  by_cases hk : m.kind ≠ 11
  · rw [if_pos hk]; exact says_other h hk
  rw [if_neg hk] at he ⊢
  have hu := h.upd_of (by simpa using hk)
  by_cases hx : m.metric ≠ 65535 ∧ m.next = [] ∧ nextC c (famE m.ae) ≠ []
  · rw [if_pos hx] at he; exact absurd he (show ¬ ((9 : Int) = 0) by decide)
  rw [if_neg hx]
  have hle := leadC_le c m
  have hok := leadC_ok c m
  unfold headL knownL
  by_cases hm : m.metric = 65535
  · rw [if_pos hm, if_pos hm, List.nil_append]
    exact says_upd hc hu hle hok (fun q => absurd hm q)
  · rw [if_neg hm, if_neg hm]
    refine says_update hc hu hm hle hok ?_ ?_
    · by_cases hi : m.id = c.id
      · rw [if_pos hi]; exact .inr ⟨rfl, hi⟩
      · rw [if_neg hi]; exact .inl rfl
    · by_cases hnx : m.next = nextC c (famE m.ae)
      · rw [if_pos hnx]; exact .inr ⟨rfl, hnx⟩
      · rw [if_neg hnx]
        refine .inl ⟨rfl, fun e => ?_⟩
        exact hx ⟨hm, e, fun q => hnx (by rw [e, q])⟩
def behindL (c : Ctx) (m : Msg) : Ctx := if m.kind = 11 then setP (knownL c m) m.ae m.prefix_ else c
theorem plainL_back {c : Ctx} {m : Msg} (hc : okC c) (h : LeanR m) (hx : m.kind = 11 → m.metric ≠ 65535 → m.next = [] → nextC c (famE m.ae) = []) : Says c (plainL m).1 [m] (behindL c m) := by
  unfold plainL behindL
  rw [leanR_iff.2 h, if_neg (show ¬ (true = false) by simp)]
  by_cases hk : m.kind ≠ 11
  · rw [if_pos hk, if_neg hk]; exact says_other h hk
  have hk' : m.kind = 11 := by simpa using hk
  rw [if_neg hk, if_pos hk']
  have hu := h.upd_of hk'
  unfold knownL
  dsimp only
  by_cases hm : m.metric = 65535
  · rw [if_pos hm, if_pos hm, List.nil_append]
    exact says_upd hc hu (by omega) (fun q => absurd rfl q) (fun q => absurd hm q)
  · rw [if_neg hm, if_neg hm]
    refine says_update hc hu hm (by omega) (fun q => absurd rfl q) (.inl rfl) ?_
    by_cases hne : m.next = []
    · rw [if_pos hne]; exact .inr ⟨rfl, by rw [hne]; exact (hx hk' hm hne).symm⟩
    · rw [if_neg hne]; exact .inl ⟨rfl, hne⟩
theorem putL_ok {c : Ctx} {m : Msg} (hc : okC c) (h : LeanR m) : okC (putL c m).2.1 := by
  unfold putL
  split
  · exact hc
  split
  · exact hc
  split
  · exact hc
  rename_i hk hx
  have hu := h.upd_of (by simpa using hk)
  have hk2 : okC (knownL c m) := by
    unfold knownL
    split
    · exact hc
    · rename_i hm
      obtain ⟨hf, hop⟩ := hu.fam hm
      have hc1 := okC_setId (i := m.id) hc (hu.near hm).2.1
      by_cases hne : m.next = []
      · have e : m.next = nextC (setId c m.id) (famE m.ae) := by
          rw [hne]
          show [] = nextC c (famE m.ae)
          cases hq : nextC c (famE m.ae) with
          | nil => rfl
          | cons a b => exact absurd ⟨hm, hne, by rw [hq]; simp⟩ hx
        rw [setN_same hf e]; exact hc1
      · exact okC_setN hc1 (hop hne)
  obtain ⟨a, b, c', d, e⟩ := inB_iff.1 hu.inn
  obtain ⟨h0, h1, h2, h3, h4, h5, h6⟩ := hk2
  show okC (setP (knownL c m) m.ae m.prefix_)
  unfold setP
  split
  · exact ⟨h0, h1, h2, h3, h4, h5, h6⟩
  · refine ⟨h0, ?_, ?_, ?_, h4, h5, h6⟩
    · dsimp only
      split
      · rename_i q; rw [q] at b; right; have : szA 1 = 4 := rfl; omega
      · exact h1
    · dsimp only
      split
      · rename_i q; rw [q] at b; right; have : szA 2 = 16 := rfl; omega
      · exact h2
    · dsimp only
      split
      · rename_i q; exact .inr (e q)
      · exact h3
theorem tput_mono {t : Int} {a b : Bs} (h : a.length ≤ b.length) (hb : 1 ≤ t ∧ t ≤ 255 ∧ b.length ≤ 255) : (tput t a).1.length ≤ (tput t b).1.length := by
  unfold tput
  rw [if_pos ⟨hb.1, hb.2.1, by omega⟩, if_pos hb]; simp; omega
theorem putL_short {c : Ctx} {m : Msg} (h : LeanR m) (he : (putL c m).2.2 = 0) : (putL c m).1.length ≤ (plainL m).1.length := by
  unfold putL at he ⊢
  unfold plainL
  rw [leanR_iff.2 h] at he ⊢
  rw [if_neg (show ¬ (true = false) by simp)] at he ⊢
  rw [if_neg (show ¬ (true = false) by simp)]
  by_cases hk : m.kind ≠ 11
  · rw [if_pos hk, if_pos hk]; exact Nat.le_refl _
  rw [if_neg hk] at he ⊢
  rw [if_neg hk]
  have hu := h.upd_of (by simpa using hk)
  by_cases hx : m.metric ≠ 65535 ∧ m.next = [] ∧ nextC c (famE m.ae) ≠ []
  · rw [if_pos hx] at he; exact absurd he (show ¬ ((9 : Int) = 0) by decide)
  rw [if_neg hx]
  have l1 := updD_len hu (leadC c m)
  have l2 := updD_len hu 0
  have hs := encS_small hu.subs
  obtain ⟨_, _, _, h16, _, _⟩ := hu.pre
  have := tput_mono (t := 8) (a := updD m (leadC c m)) (b := updD m 0) (by omega) ⟨by omega, by omega, by omega⟩
  show ((headL c m ++ updT m (leadC c m)).length ≤ (_ ++ updT m 0).length)
  rw [List.length_append, List.length_append]
  have h2 : (headL c m).length ≤ (if m.metric = 65535 then [] else idT m.id ++ (if m.next = [] then [] else hopT m.next)).length := by
    unfold headL
    by_cases hm : m.metric = 65535
    · rw [if_pos hm, if_pos hm]; exact Nat.le_refl _
    · rw [if_neg hm, if_neg hm, List.length_append, List.length_append]
      have a1 : (if m.id = c.id then [] else idT m.id).length ≤ (idT m.id).length := by split <;> simp
      have a2 : (if m.next = nextC c (famE m.ae) then [] else hopT m.next).length ≤ (if m.next = [] then [] else hopT m.next).length := by
        by_cases hne : m.next = []
        · have e : m.next = nextC c (famE m.ae) := by
            rw [hne]
            cases hq : nextC c (famE m.ae) with
            | nil => rfl
            | cons a b => exact absurd ⟨hm, hne, by rw [hq]; simp⟩ hx
          rw [if_pos e]; simp
        · rw [if_neg hne]; split <;> simp
      omega
  unfold updT
  omega
end Go.VP
set_option linter.unusedVariables false
set_option linter.unusedSimpArgs false
set_option maxRecDepth 100000
namespace Go.VP
open Go Go.VI
noncomputable def outS : Ctx → List Msg → Option (Bs × Ctx)
  | c, [] => some ([], c)
  | c, m :: r => if (putL c m).2.2 ≠ 0 then none else (outS (putL c m).2.1 r).map fun x => ((putL c m).1 ++ x.1, x.2)
noncomputable def goO : Ctx → List Msg → Nat → Bs → Bs × Int × Int
  | _, [], _, b => ((wrapF b).1, 0, 0)
  | c, m :: r, i, b => if (putL c m).2.2 ≠ 0 then ([], i, (putL c m).2.2) else if 65531 < ((b ++ (putL c m).1).length : Int) then ([], i, 10) else goO (putL c m).2.1 r (i + 1) (b ++ (putL c m).1)
noncomputable def badL : List Msg → Nat → Option Nat
  | [], _ => none
  | m :: r, i => if leanB m = false then some i else badL r (i + 1)
noncomputable def encO (l : List Msg) : Bs × Int × Int := match badL l 0 with
  | some i => ([], i, 1)
  | none => goO c0 l 0 []
theorem badL_none : ∀ {l : List Msg} {i : Nat}, badL l i = none ↔ ∀ m ∈ l, leanB m = true
  | [], i => by simp [badL]
  | m :: r, i => by
    rw [badL]
    by_cases h : leanB m = false
    · rw [if_pos h]; simp [h]
    · rw [if_neg h, badL_none (l := r)]
      simp at h; simp [h]
theorem outS_says : ∀ {l : List Msg} {c d : Ctx} {s : Bs}, okC c → (∀ m ∈ l, LeanR m) → outS c l = some (s, d) → Says c s l d ∧ okC d
  | [], c, d, s, hc, hl, h => by rw [outS] at h; cases h; exact ⟨says_nil c, hc⟩
  | m :: r, c, d, s, hc, hl, h => by
    rw [outS] at h
    split at h
    · cases h
    · rename_i he
      have he : (putL c m).2.2 = 0 := by simpa using he
      cases ho : outS (putL c m).2.1 r with
      | none => rw [ho] at h; cases h
      | some x =>
        rw [ho] at h
        cases h
        have hR := hl m (List.mem_cons_self ..)
        obtain ⟨h1, h2⟩ := outS_says (putL_ok hc hR) (fun x hx => hl x (List.mem_cons_of_mem _ hx)) ho
        exact ⟨says_app (putL_back hc hR he) h1, h2⟩
theorem goO_of : ∀ {l : List Msg} {c d : Ctx} {s b : Bs} {i : Nat}, outS c l = some (s, d) → ((b ++ s).length : Int) ≤ 65531 → goO c l i b = ((wrapF (b ++ s)).1, 0, 0)
  | [], c, d, s, b, i, h, hl => by rw [outS] at h; cases h; rw [goO, List.append_nil]
  | m :: r, c, d, s, b, i, h, hl => by
    rw [outS] at h
    split at h
    · cases h
    · rename_i he
      cases ho : outS (putL c m).2.1 r with
      | none => rw [ho] at h; cases h
      | some x =>
        rw [ho] at h
        cases h
        rw [← List.append_assoc] at hl ⊢
        have hl2 : (((b ++ (putL c m).1) ++ x.1).length : Int) ≤ 65531 := hl
        rw [goO, if_neg he, if_neg (by simp only [List.length_append] at hl2 ⊢; omega)]
        exact goO_of ho hl2
theorem goO_inv : ∀ {l : List Msg} {c : Ctx} {b : Bs} {i : Nat}, (goO c l i b).2.2 = 0 → (b.length : Int) ≤ 65531 → ∃ s d, outS c l = some (s, d) ∧ ((b ++ s).length : Int) ≤ 65531
  | [], c, b, i, h, hb => ⟨[], c, rfl, by simpa using hb⟩
  | m :: r, c, b, i, h, hb => by
    rw [goO] at h
    split at h
    · rename_i he; exact absurd h he
    rename_i he
    split at h
    · exact absurd h (show ¬ ((10 : Int) = 0) by decide)
    rename_i hl
    obtain ⟨s, d, h1, h2⟩ := goO_inv h (by omega)
    exact ⟨(putL c m).1 ++ s, d, by rw [outS, if_neg he, h1]; rfl, by rw [← List.append_assoc]; exact h2⟩
theorem parse_out {l : List Msg} {s : Bs} {d : Ctx} (h : Says c0 s l d) (hs : (s.length : Int) ≤ 65531) : parseI (wrapF s).1 = (l, 0, 0) := by
  obtain ⟨w1, w2, w3, w4⟩ := body_wrap (s := s) (t := []) (by omega) (by simp; omega)
  rw [List.append_nil] at w1 w2
  obtain ⟨tl, h1, h2, h3⟩ := h 4
  have hf := h3 []
  unfold parseI
  rw [w1, w2, if_neg (by simp)]
  dsimp only
  rw [h1, spl_nil]
  dsimp only
  rw [hf]; rfl
theorem encO_ok {l : List Msg} (h : (encO l).2.2 = 0) : (∀ m ∈ l, leanB m = true) ∧ ∃ s d, outS c0 l = some (s, d) ∧ (s.length : Int) ≤ 65531 ∧ encO l = ((wrapF s).1, 0, 0) ∧ Says c0 s l d ∧ (encO l).1.length = 4 + s.length := by
  unfold encO at h ⊢
  cases hb : badL l 0 with
  | some i => rw [hb] at h; exact absurd h (show ¬ ((1 : Int) = 0) by decide)
  | none =>
    rw [hb] at h
    dsimp only at h ⊢
    have hl := badL_none.1 hb
    obtain ⟨s, d, h1, h2⟩ := goO_inv h (by simp)
    have h2' : (s.length : Int) ≤ 65531 := by simpa using h2
    have h3 := goO_of (i := 0) (b := []) h1 (by simpa using h2')
    rw [List.nil_append] at h3
    refine ⟨hl, s, d, h1, h2', h3, (outS_says okC_c0 (fun m hm => leanR_iff.1 (hl m hm)) h1).1, ?_⟩
    rw [h3]
    exact (body_wrap (s := s) (t := []) (by omega) (by simp; omega)).2.2.1
noncomputable def plainGo : List Msg → Int → Int
  | [], n => n
  | m :: r, n => if (plainL m).2 = false then 0 else plainGo r (n + ((plainL m).1.length : Int))
theorem plainL_yes {m : Msg} : (plainL m).2 = leanB m := by
  unfold plainL
  cases h : leanB m with
  | false => rw [if_pos rfl]
  | true => rw [if_neg (show ¬ (true = false) by simp)]; split <;> rfl
theorem outS_short : ∀ {l : List Msg} {c d : Ctx} {s : Bs} {n : Int}, (∀ m ∈ l, leanB m = true) → outS c l = some (s, d) → n + s.length ≤ plainGo l n
  | [], c, d, s, n, hl, h => by rw [outS] at h; cases h; rw [plainGo]; simp
  | m :: r, c, d, s, n, hl, h => by
    rw [outS] at h
    have hm := hl m (List.mem_cons_self ..)
    split at h
    · cases h
    · rename_i he
      have he : (putL c m).2.2 = 0 := by simpa using he
      cases ho : outS (putL c m).2.1 r with
      | none => rw [ho] at h; cases h
      | some x =>
        rw [ho] at h
        cases h
        have h1 := putL_short (leanR_iff.1 hm) he
        have h2 := outS_short (n := n + ((plainL m).1.length : Int)) (fun x hx => hl x (List.mem_cons_of_mem _ hx)) ho
        rw [plainGo, plainL_yes, hm, if_neg (show ¬ (true = false) by simp)]
        simp only [List.length_append]
        omega
end Go.VP
set_option linter.unusedVariables false
set_option linter.unusedSimpArgs false
set_option maxRecDepth 100000
namespace Go.VP
open Go Go.VI
theorem putL_small (c : Ctx) (m : Msg) : (putL c m).1.length ≤ 800 := by
  have h1 := idT_len m.id; have h2 := hopT_len m.next; have h3 : (updT m (leadC c m)).length ≤ 257 := tput_len _ _
  have h4 : (otherF m).length ≤ 257 := by
    unfold otherF routePut fieldPut
    split
    · split
      · exact tput_len _ _
      · simp
    split
    · exact tput_len _ _
    split
    · exact tput_len _ _
    · simp
  have h5 : (headL c m).length ≤ 514 := by
    unfold headL
    split
    · simp
    · have a1 : (if m.id = c.id then [] else idT m.id).length ≤ 257 := by
        split
        · simp
        · exact h1
      have a2 : (if m.next = nextC c (famE m.ae) then [] else hopT m.next).length ≤ 257 := by
        split
        · simp
        · exact h2
      rw [List.length_append]; omega
  unfold putL
  split
  · simp
  split
  · dsimp only; omega
  split
  · simp
  · dsimp only; rw [List.length_append]; omega
theorem plainL_small (m : Msg) : (plainL m).1.length ≤ 800 := by
  have h1 := idT_len m.id; have h2 := hopT_len m.next; have h3 : (updT m 0).length ≤ 257 := tput_len _ _
  have h4 : (otherF m).length ≤ 257 := by
    unfold otherF routePut fieldPut
    split
    · split
      · exact tput_len _ _
      · simp
    split
    · exact tput_len _ _
    split
    · exact tput_len _ _
    · simp
  unfold plainL
  split
  · simp
  split
  · dsimp only; omega
  · dsimp only; rw [List.length_append]; split
    · simp; omega
    · have h6 : (if m.next = [] then [] else hopT m.next).length ≤ 257 := by
        split
        · simp
        · exact h2
      rw [List.length_append]; omega
theorem oenc1_loop {l : List Msg} {n : Nat} (hl : l.length ≤ 100000) (hg : ∀ m ∈ l, GoodL m) (hb : ∀ m ∈ l, leanB m = true) : ∀ (d k i : Nat) (c : Ctx) (b : Bs), i + d = l.length → d < k → okC c → b.length ≤ 65531 →
    L_outlet_Encode_1 n k l b c.prefix_c0 c.prefix_c1 c.prefix_c2 c.prefix_c3 c.next_c0 c.next_c1 c.id i = some (trip (goO c (l.drop i) i b), ()) := by
  intro d
  induction d with
  | zero =>
    intro k i c b hd hk hc hbl
    obtain ⟨k, rfl⟩ : ∃ q, k = q + 1 := ⟨k - 1, by omega⟩
    rw [L_outlet_Encode_1_eq, ifn (by omega), wrap_is (by omega), List.drop_eq_nil_of_le (by omega)]; rfl
  | succ d ih =>
    intro k i c b hd hk hc hbl
    obtain ⟨k, rfl⟩ : ∃ q, k = q + 1 := ⟨k - 1, by omega⟩
    have hi : i < l.length := by omega
    have hp : 0 ≤ (i : Int) := by omega
    have hm := hb _ (List.getElem_mem hi)
    have hgm := hg _ (List.getElem_mem hi)
    have ih' := fun c b => ih k (i + 1) c b (by omega) (by omega)
    rw [show ((i + 1 : Nat) : Int) = (i : Int) + 1 by omega] at ih'
    rw [L_outlet_Encode_1_eq, ifd (by omega), if_pos hp, Int.toNat_natCast, bind_at hi, List.drop_eq_getElem_cons hi, goO]
    generalize l[i] = m at *
    have hlen := putL_small c m
    rw [show (S_api_Ctx.mk c.prefix_c0 c.prefix_c1 c.prefix_c2 c.prefix_c3 c.next_c0 c.next_c1 c.id) = c from rfl, lput_main hc hgm, Option.bind_some]
    dsimp only
    refine ne_step (fun he => by rw [if_pos he]) (fun he => ?_)
    rw [if_neg (show ¬ (putL c m).2.2 ≠ 0 from fun q => q he), if_pos (roomB_of (by omega))]
    refine dq_step' (fun q => by rw [if_pos q]) (fun q => ?_)
    rw [if_neg q, w64 (by omega) (by omega)]
    exact ih' _ _ (putL_ok hc (leanR_iff.1 hm)) (by omega)
theorem oenc0_loop {l : List Msg} {n : Nat} (hn : 1000000 ≤ n) (hl : l.length ≤ 100000) (hg : ∀ m ∈ l, GoodL m) : ∀ (d k i : Nat), i + d = l.length → d < k → (∀ m ∈ l.take i, leanB m = true) →
    L_outlet_Encode_0 n k l i = some (trip (match badL (l.drop i) i with | some j => ([], (j : Int), 1) | none => goO c0 l 0 []), ()) := by
  intro d
  induction d with
  | zero =>
    intro k i hd hk hq
    obtain ⟨k, rfl⟩ : ∃ q, k = q + 1 := ⟨k - 1, by omega⟩
    rw [List.take_of_length_le (by omega)] at hq
    have := oenc1_loop (n := n) hl hg hq l.length n 0 c0 [] (by omega) (by omega) okC_c0 (by simp)
    rw [L_outlet_Encode_0_eq, ifn (by omega), List.drop_eq_nil_of_le (by omega)]
    exact this
  | succ d ih =>
    intro k i hd hk hq
    obtain ⟨k, rfl⟩ : ∃ q, k = q + 1 := ⟨k - 1, by omega⟩
    have hi : i < l.length := by omega
    have hp : 0 ≤ (i : Int) := by omega
    have ih' := ih k (i + 1) (by omega) (by omega)
    rw [show ((i + 1 : Nat) : Int) = (i : Int) + 1 by omega] at ih'
    have hgm := hg _ (List.getElem_mem hi)
    rw [L_outlet_Encode_0_eq, ifd (by omega), if_pos hp, Int.toNat_natCast, bind_at hi, lright_is hgm, Option.bind_some, List.drop_eq_getElem_cons hi, badL]
    dsimp only
    cases hm : leanB l[i] with
    | false => rw [ifnf, if_pos rfl]
    | true =>
      rw [ifnt, if_neg (show ¬ (true = false) by simp), w64 (by omega) (by omega)]
      refine ih' (fun x hx => ?_)
      rw [List.take_succ_eq_append_getElem hi, List.mem_append, List.mem_singleton] at hx
      rcases hx with hx | rfl
      · exact hq x hx
      · exact hm
theorem oenc_is {l : List Msg} (hl : l.length ≤ 100000) (hg : ∀ m ∈ l, GoodL m) : g_outlet_Encode (l, ()) = some (trip (encO l), ()) := by
  show h_outlet_Encode fuel (l, ()) = _
  rw [h_outlet_Encode_eq]
  exact oenc0_loop (n := fuel) (Nat.le_of_lt (fuel_ge (by omega))) hl hg l.length fuel 0 (by omega) (fuel_ge (by omega)) (fun m hm => by simp at hm)
theorem oplain_loop {l : List Msg} {n : Nat} (hl : l.length ≤ 100000) (hg : ∀ m ∈ l, GoodL m) : ∀ (d k i : Nat) (x : Int), i + d = l.length → d < k → 0 ≤ x ∧ x ≤ 4 + 800 * i →
    L_outlet_Plain_0 n k l x i = some ((plainGo (l.drop i) x, ()), ()) := by
  intro d
  induction d with
  | zero =>
    intro k i x hd hk hx
    obtain ⟨k, rfl⟩ : ∃ q, k = q + 1 := ⟨k - 1, by omega⟩
    rw [L_outlet_Plain_0_eq, ifn (by omega), List.drop_eq_nil_of_le (by omega)]; rfl
  | succ d ih =>
    intro k i x hd hk hx
    obtain ⟨k, rfl⟩ : ∃ q, k = q + 1 := ⟨k - 1, by omega⟩
    have hi : i < l.length := by omega
    have hp : 0 ≤ (i : Int) := by omega
    have ih' := fun x => ih k (i + 1) x (by omega) (by omega)
    rw [show ((i + 1 : Nat) : Int) = (i : Int) + 1 by omega] at ih'
    have hgm := hg _ (List.getElem_mem hi)
    rw [L_outlet_Plain_0_eq, ifd (by omega), if_pos hp, Int.toNat_natCast, bind_at hi, lplain_is hgm, Option.bind_some, List.drop_eq_getElem_cons hi, plainGo]
    have hlen := plainL_small l[i]
    dsimp only
    cases hm : (plainL l[i]).2 with
    | false => rw [ifnf, if_pos rfl]
    | true =>
      rw [ifnt, if_neg (show ¬ (true = false) by simp), w64 (by omega) (by omega), w64 (by omega) (by omega)]
      exact ih' _ (by omega)
theorem oplain_is {l : List Msg} (hl : l.length ≤ 100000) (hg : ∀ m ∈ l, GoodL m) : g_outlet_Plain (l, ()) = some ((plainGo l 4, ()), ()) := by
  show h_outlet_Plain fuel (l, ()) = _
  rw [h_outlet_Plain_eq]
  exact oplain_loop (n := fuel) hl hg l.length fuel 0 4 (by omega) (fuel_ge (by omega)) (by omega)
end Go.VP
set_option linter.unusedVariables false
set_option linter.unusedSimpArgs false
set_option maxRecDepth 100000
namespace Go.VP
open Go Go.VI
structure RM (m : Msg) : Prop where
  tag : IntKind.has .i64 m.tag
  plen : IntKind.has .i64 m.plen
  list : m.list.length ≤ 1000000000
  subs : m.subs.length ≤ 1000000000
end Go.VP
set_option linter.unusedVariables false
set_option linter.unusedSimpArgs false
set_option maxRecDepth 100000
namespace Go.VP
open Go Go.VI
abbrev Ent := S_api_Entry
structure EntOk (e : Ent) : Prop where
  fam : 0 ≤ e.family ∧ e.family ≤ 65535
  tag : 0 ≤ e.tag ∧ e.tag ≤ 65535
  addr : e.addr.length = 4
  mask : e.mask.length = 4
  next : e.next.length = 4
  metric : 0 ≤ e.metric ∧ e.metric ≤ 4294967295
end Go.VP
set_option linter.unusedVariables false
set_option linter.unusedSimpArgs false
set_option maxRecDepth 100000
namespace Go.VP
open Go Go.VI
def togP (f m : Msg) : Prop := m.cmd = f.cmd ∧ m.ver = f.ver ∧ m.auth = f.auth ∧ m.family ≠ 0 ∧ f.family ≠ 0
instance (f m : Msg) : Decidable (togP f m) := by unfold togP; infer_instance
end Go.VP
set_option linter.unusedVariables false
set_option linter.unusedSimpArgs false
set_option maxRecDepth 100000
namespace Go.VP
open Go Go.VI
theorem goodRM {m : Msg} (g : Good_api_Msg m) (h : Few m) : RM m := by
  obtain ⟨g1, g2, g3, g4, g5, g6, g7, g8, g9, g10, g11, g12, g13, g14, g15, g16, g17, g18, g19, g20, g21, _⟩ := g
  exact ⟨g9, g8, by have := h.list; omega, by have := h.subs; omega⟩
end Go.VP
set_option linter.unusedVariables false
set_option linter.unusedSimpArgs false
set_option maxRecDepth 100000
namespace Go.VP
open Go Go.VI
def extB (l : List Sub) : Bool := l.all (subB 0 255)
def AllE (l : List Sub) : Prop := ∀ y ∈ l, 0 ≤ y.type_ ∧ y.type_ ≤ 255 ∧ y.data.length ≤ 255
end Go.VP
set_option linter.unusedVariables false
set_option linter.unusedSimpArgs false
set_option maxRecDepth 100000
namespace Go.VP
open Go Go.VI
def z16 : Bs := [0, 0, 0, 0, 0, 0, 0, 0, 0, 0, 0, 0, 0, 0, 0, 0]
def preB (a : Bs) (n : Int) : Bool := decide (0 ≤ n ∧ n ≤ 128) && cleanB a n
structure NgR (m : Msg) : Prop where
  kind : m.kind = 2
  bare : bareB m = true
  cmd : m.cmd = 1 ∨ m.cmd = 2
  tag : 0 ≤ m.tag ∧ m.tag < 65536
  metric : 1 ≤ m.metric ∧ m.metric ≤ 16
  len : m.prefix_.length = 16
  pre : preB m.prefix_ m.plen = true
  next : m.next = z16 ∨ linkB m.next = true
theorem NgR.plen {m : Msg} (h : NgR m) : 0 ≤ m.plen ∧ m.plen ≤ 128 := by
  have := h.pre; unfold preB at this; simp at this; exact this.1
structure GoodG (m : Msg) : Prop where
  tag : IntKind.has .i64 m.tag
  plen : IntKind.has .i64 m.plen
  cmd : IntKind.has .i64 m.cmd
  list : m.list.length ≤ 1000000000
  subs : m.subs.length ≤ 1000000000
abbrev EntN := S_api_Entry
end Go.VP
set_option linter.unusedVariables false
set_option linter.unusedSimpArgs false
set_option maxRecDepth 100000
namespace Go.VP
open Go Go.VI
structure EntKN (e : EntN) : Prop where
  addr : e.addr.length = 16
  tag : 0 ≤ e.tag ∧ e.tag < 65536
  fam : 0 ≤ e.family ∧ e.family < 256
  met : 0 ≤ e.metric ∧ e.metric < 256
end Go.VP
set_option linter.unusedVariables false
set_option linter.unusedSimpArgs false
set_option maxRecDepth 100000
namespace Go.VP
open Go Go.VI
def W32 (n : Int) : Prop := 0 ≤ n ∧ n < 4294967296
def W8 (n : Int) : Prop := 0 ≤ n ∧ n < 256
structure RqR (m : Msg) : Prop where
  kind : m.kind = 3
  bare : bareB m = true
  flags : 0 ≤ m.flags ∧ m.flags ≤ 31
  addr : m.addr.length = 4
  orig : m.orig.length = 4
  nonce : W32 m.nonce
  seq : W32 m.seq
  seq2 : W32 m.seq2
  hops : W8 m.hops
  subs : extB m.subs = true
structure RpR (m : Msg) : Prop where
  kind : m.kind = 4
  bare : bareB m = true
  flags : 0 ≤ m.flags ∧ m.flags ≤ 3
  plen : 0 ≤ m.plen ∧ m.plen ≤ 31
  addr : m.addr.length = 4
  orig : m.orig.length = 4
  seq : W32 m.seq
  life : W32 m.interval
  hops : W8 m.hops
  subs : extB m.subs = true
structure AkR (m : Msg) : Prop where
  kind : m.kind = 6
  bare : bareB m = true
  subs : extB m.subs = true
def destB (d : Dest) : Bool := decide (d.addr.length = 4) && fitsB d.seq 4
structure ReR (m : Msg) : Prop where
  kind : m.kind = 5
  bare : bareB m = true
  flags : m.flags = 0 ∨ m.flags = 1
  len : 1 ≤ m.list.length ∧ m.list.length ≤ 255
  list : m.list.all destB = true
  subs : extB m.subs = true
structure GoodV (m : Msg) : Prop where
  nonce : IntKind.has .i64 m.nonce
  seq : IntKind.has .i64 m.seq
  seq2 : IntKind.has .i64 m.seq2
  hops : IntKind.has .i64 m.hops
  life : IntKind.has .i64 m.interval
  list : m.list.length ≤ 1000000
  ds : ∀ d ∈ m.list, IntKind.has .i64 d.seq
  subs : FewS m.subs
  subs1 : m.subs.length ≤ 1000000
end Go.VP
set_option linter.unusedVariables false
set_option linter.unusedSimpArgs false
set_option maxRecDepth 100000
namespace Go.VP
open Go Go.VI
theorem W32.has {n : Int} (h : W32 n) : IntKind.has .i64 n := has64.2 ⟨by have := h.1; omega, by have := h.2; omega⟩
end Go.VP
set_option linter.unusedVariables false
set_option linter.unusedSimpArgs false
set_option maxRecDepth 100000
namespace Go.VP
open Go Go.VI
theorem AllE.fewS {l : List Sub} (h : AllE l) (hl : l.length ≤ 1000000) : FewS l := ⟨by omega, fun y hy => by have := (h y hy).2.2; omega⟩
end Go.VP
set_option linter.unusedVariables false
set_option linter.unusedSimpArgs false
set_option maxRecDepth 100000
namespace Go.VP
open Go Go.VI
structure GoodQ (m : Msg) : Prop where
  rip : RM m
  ng : GoodG m
  av : GoodV m
  lean : GoodL m
theorem goodQ {m : Msg} (g : Good_api_Msg m) (h : Few m) : GoodQ m := by
  have hl := h.lite
  have g0 := g
  obtain ⟨g1, g2, g3, g4, g5, g6, g7, g8, g9, g10, g11, g12, g13, g14, g15, g16, g17, g18, g19, g20, g21, g22, g23, _⟩ := g
  have h1 := hl.list
  have h2 := hl.subs
  exact ⟨goodRM g0 h, ⟨g9, g8, g2, by omega, by omega⟩, ⟨g18, g13, g14, g17, g15, by omega, fun d hd => (g22.2 d hd).2.1, hl.fewS, by omega⟩, goodL g0 hl⟩
end Go.VP
set_option linter.unusedVariables false
set_option linter.unusedSimpArgs false
set_option maxRecDepth 100000
namespace Go.VP
open Go Go.VI
def GoodP (p : Int) (m : Msg) : Prop := (p = 1 → RM m) ∧ (p = 2 → GoodG m) ∧ (p = 3 → GoodV m) ∧ (p = 4 → GoodL m)
theorem GoodQ.p {m : Msg} (g : GoodQ m) (p : Int) : GoodP p m := ⟨fun _ => g.rip, fun _ => g.ng, fun _ => g.av, fun _ => g.lean⟩
end Go.VP
set_option linter.unusedVariables false
set_option linter.unusedSimpArgs false
set_option maxRecDepth 100000
namespace Go.VP
open Go Go.VI
theorem awakeT : g_top_awake () = some ((true, ()), ()) := by kernel_rfl
theorem awbT {α : Type} (f : (Bool × Unit) × Unit → Option α) : (g_top_awake ()).bind f = f ((true, ()), ()) := by rw [awakeT]; rfl
end Go.VP
