/- A message's bytes tell it alone, and leave behind what is known. -/
import Derived.Test.YtabekdfijifnfaaQPBase
import Derived.Test.YtabekdfijifnfaaQPCur
import Derived.Test.YtabekdfijifnfaaQPOct
import Derived.Test.YtabekdfijifnfaaQPTlv
import Derived.Test.YtabekdfijifnfaaQPSub
import Derived.Test.YtabekdfijifnfaaQPMsg
import Derived.Test.YtabekdfijifnfaaQPAll
import Derived.Test.YtabekdfijifnfaaQPWrap
import Derived.Test.YtabekdfijifnfaaQPBody
import Derived.Test.YtabekdfijifnfaaQPAddr
import Derived.Test.YtabekdfijifnfaaQPBits
import Derived.Test.YtabekdfijifnfaaQPField
import Derived.Test.YtabekdfijifnfaaQPFieldG
import Derived.Test.YtabekdfijifnfaaQPFieldB
import Derived.Test.YtabekdfijifnfaaQPRoute
import Derived.Test.YtabekdfijifnfaaQPRouteG
import Derived.Test.YtabekdfijifnfaaQPTake
import Derived.Test.YtabekdfijifnfaaQPRouteB
import Derived.Test.YtabekdfijifnfaaQPCtx
import Derived.Test.YtabekdfijifnfaaQPCtxU
import Derived.Test.YtabekdfijifnfaaQFH
import Derived.Test.YtabekdfijifnfaaQPCtxV
import Derived.Test.YtabekdfijifnfaaQPCtxW
import Derived.Test.YtabekdfijifnfaaQPCtxX
import Derived.Test.YtabekdfijifnfaaQPIntake
import Derived.Test.YtabekdfijifnfaaQPFold
import Derived.Test.YtabekdfijifnfaaQPParts
import Derived.Test.YtabekdfijifnfaaQPUpd
import Derived.Test.YtabekdfijifnfaaQPLeanR
import Derived.Test.YtabekdfijifnfaaQPCtxL
import Derived.Test.YtabekdfijifnfaaQPLead
import Derived.Test.YtabekdfijifnfaaQPLean
set_option linter.unusedVariables false
set_option linter.unusedSimpArgs false
set_option maxRecDepth 100000
namespace Go.VP
open Go Go.VI
def Tg' (t : Tlv) : Prop := ((0 ≤ t.type_ ∧ t.type_ ≤ 255) ∧ t.data.length ≤ 255) ∧ t.type_ ≠ 0 ∧ t.type_ ≠ 1
def Says (c : Ctx) (s : Bs) (M : List Msg) (d : Ctx) : Prop := ∀ p, ∃ l, spl p s = .ok l ∧ (∀ t ∈ l, Tg' t) ∧ ∀ acc, foldR c l acc = (acc ++ M, d, 0, 0)
theorem says_nil (c : Ctx) : Says c [] [] c := fun p => ⟨[], spl_nil p, (fun t ht => by cases ht), fun acc => by rw [foldR, List.append_nil]⟩
theorem says_app {c d e : Ctx} {s t : Bs} {M N : List Msg} (h : Says c s M d) (h2 : Says d t N e) : Says c (s ++ t) (M ++ N) e := fun p => by
  obtain ⟨l, l1, l2, l3⟩ := h p
  obtain ⟨k, k1, k2, k3⟩ := h2 (p + s.length)
  refine ⟨l ++ k, by rw [spl_append s p l l1, k1]; rfl, fun x hx => ?_, fun acc => ?_⟩
  · rcases List.mem_append.1 hx with hx | hx
    · exact l2 x hx
    · exact k2 x hx
  · rw [foldR_app l k c acc (by rw [l3]), l3, k3, List.append_assoc]
theorem says_one {c d : Ctx} {t : Int} {b : Bs} {M : List Msg} (ht : 2 ≤ t ∧ t ≤ 255) (hb : b.length ≤ 255) (h : oneR c t b = (d, M, 0)) : Says c (tput t b).1 M d := fun p => by
  have e : (tput t b).1 = u8of t :: u8of b.length :: b := by unfold tput; rw [if_pos ⟨by omega, ht.2, hb⟩]
  refine ⟨[⟨t, p, b⟩], by rw [e]; exact spl_tput ⟨by omega, ht.2⟩ hb, fun x hx => ?_, fun acc => ?_⟩
  · rw [List.mem_singleton] at hx; subst hx
    exact ⟨⟨⟨by show 0 ≤ t; omega, ht.2⟩, hb⟩, by show t ≠ 0; omega, by show t ≠ 1; omega⟩
  · rw [foldR]
    dsimp only
    rw [h, if_neg (by simp), foldR]
theorem resF_yes {c : Ctx} {m : Msg} : resF c (m, true, 0) = (c, [m], 0) := by unfold resF; rw [if_neg (by simp), if_pos rfl]
theorem says_field {c : Ctx} {m : Msg} (h : FieldR m) : Says c (fieldPut m).1 [m] c := by
  obtain ⟨h1, h2, h3⟩ := fieldPut_ok h
  have e : (fieldPut m).1 = (tput (m.kind - 5) (fieldsF m ++ encS m.subs)).1 := by unfold fieldPut; rw [if_pos (fieldR_iff.2 h)]
  rw [e]
  refine says_one (by omega) h2 ?_
  unfold oneR
  rw [if_neg (by omega), if_neg (by omega), if_pos (by omega), fieldG_back h, resF_yes]
theorem says_route {c : Ctx} {m : Msg} (h : RouteR m) : Says c (routePut m).1 [m] c := by
  obtain ⟨h1, h2⟩ := routePut_ok h
  have e : (routePut m).1 = (tput (if m.kind = 13 then 10 else 9) (headF m ++ encS m.subs)).1 := by unfold routePut; rw [if_pos (routeR_iff.2 h)]
  have ht : (if m.kind = 13 then (10 : Int) else 9) = 9 ∨ (if m.kind = 13 then (10 : Int) else 9) = 10 := by split <;> omega
  have hb := routeG_back h
  rw [e]
  generalize (if m.kind = 13 then (10 : Int) else 9) = t at *
  refine says_one (by omega) h2 ?_
  unfold oneR
  rw [if_neg (by omega), if_neg (by omega), if_neg (by omega), if_pos (by omega), hb, resF_yes]
theorem OpqR.eq {m : Msg} (h : OpqR m) : opaqueM m.type_ m.data = m := by
  have hx : bareOf m = some ⟨m.kind, 0, 0, [], 0, 0, [], 0, 0, [], 0, [], 0, 0, 0, 0, 0, 0, 0, [], [], [], m.type_, m.data, []⟩ := by
    have hk := h.kind
    unfold bareOf; rw [if_neg (by omega), if_neg (by omega), if_neg (by omega), if_neg (by omega), if_neg (by omega), if_neg (by omega), if_neg (by omega), if_neg (by omega), if_neg (by omega), if_neg (by omega), if_neg (by omega), if_neg (by omega), if_neg (by omega), if_pos hk]
  have hb := h.bare
  rw [bareB, hx] at hb
  have := eqB_true.1 hb
  rw [h.kind] at this
  exact this
theorem says_opq {c : Ctx} {m : Msg} (h : OpqR m) : Says c (tput m.type_ m.data).1 [m] c := by
  refine says_one (by have := h.ty; omega) (by have := h.len; omega) ?_
  have := h.ty
  unfold oneR
  rw [if_neg (by omega), if_neg (by omega), if_neg (by omega), if_neg (by omega), h.eq]
theorem says_other {c : Ctx} {m : Msg} (h : LeanR m) (hk : m.kind ≠ 11) : Says c (otherF m) [m] c := by
  unfold otherF
  cases h with
  | field h =>
    have := fieldB_kind (fieldR_iff.2 h)
    rw [if_neg (by omega), if_neg (by omega)]; exact says_field h
  | route h =>
    have := routeB_kind (routeR_iff.2 h)
    rw [if_pos this]; exact says_route h
  | upd h => exact absurd h.kind hk
  | opq h =>
    have := h.kind
    rw [if_neg (by omega), if_pos this]; exact says_opq h
theorem says_id {c : Ctx} {s : Bs} (h : s.length = 8) : Says c (idT s) [] (setId c s) := by
  refine says_one (by omega) (by unfold idD; simp; omega) ?_
  unfold oneR
  rw [if_neg (by omega), if_pos (by omega)]
  unfold stepC
  rw [if_pos rfl, idF_back h]
theorem hopD_len {a : Bs} (h : a.length ≤ 16) : (hopD a).length ≤ 255 := by
  unfold hopD; split
  · simp; omega
  split <;> simp <;> omega
theorem says_hop {c : Ctx} {a : Bs} {f : Int} (h : (f = 0 ∧ a.length = 4) ∨ (f = 1 ∧ a.length = 16)) : Says c (hopT a) [] (setN c f a) := by
  refine says_one (by omega) (hopD_len (by omega)) ?_
  unfold oneR
  rw [if_neg (by omega), if_pos (by omega)]
  unfold stepC
  rw [if_neg (by omega), if_pos rfl, hopF_back h]
theorem says_upd {c : Ctx} {m : Msg} {n : Nat} (hc : okC c) (h : UpdR m) (hn : n ≤ (bytesP m).length)
    (hk : n ≠ 0 → preC c m.ae ≠ [] ∧ ((preC c m.ae).drop (baseA m.ae).toNat).take n = (bytesP m).take n)
    (hf : m.metric ≠ 65535 → c.id = m.id ∧ nextC c (famE m.ae) = m.next) : Says c (updT m n) [m] (setP c m.ae m.prefix_) := by
  have hl := updD_len h n
  have hs := encS_small h.subs
  obtain ⟨_, _, _, h16, _, _⟩ := h.pre
  refine says_one (by omega) (by omega) ?_
  unfold oneR
  rw [if_neg (by omega), if_pos (by omega)]
  unfold stepC
  rw [if_neg (by omega), if_neg (by omega), if_pos rfl, updF_upd hc h hn hk hf]
theorem leadC_ok (c : Ctx) (m : Msg) : leadC c m ≠ 0 → preC c m.ae ≠ [] ∧ ((preC c m.ae).drop (baseA m.ae).toNat).take (leadC c m) = (bytesP m).take (leadC c m) := by
  intro h
  by_cases hq : preC c m.ae = []
  · unfold leadC at h; rw [if_pos hq] at h; exact absurd rfl h
  · refine ⟨hq, ?_⟩
    unfold leadC; rw [if_neg hq]; exact leadN_take _ _
theorem nextC_setN {c : Ctx} {f : Int} {a : Bs} (hf : f = 0 ∨ f = 1) : nextC (setN c f a) f = a := by rcases hf with rfl | rfl <;> rfl
theorem LeanR.upd_of {m : Msg} (h : LeanR m) (hk : m.kind = 11) : UpdR m := by
  cases h with
  | field h => have := fieldB_kind (fieldR_iff.2 h); omega
  | route h => have := routeB_kind (routeR_iff.2 h); omega
  | upd h => exact h
  | opq h => have := h.kind; omega
theorem says_update {c : Ctx} {m : Msg} {n : Nat} {i h : Bs} (hc : okC c) (hu : UpdR m) (hm : m.metric ≠ 65535) (hn : n ≤ (bytesP m).length)
    (hk : n ≠ 0 → preC c m.ae ≠ [] ∧ ((preC c m.ae).drop (baseA m.ae).toNat).take n = (bytesP m).take n)
    (hi : i = idT m.id ∨ (i = [] ∧ m.id = c.id)) (hh : (h = hopT m.next ∧ m.next ≠ []) ∨ (h = [] ∧ m.next = nextC c (famE m.ae))) :
    Says c ((i ++ h) ++ updT m n) [m] (setP (setN (setId c m.id) (famE m.ae) m.next) m.ae m.prefix_) := by
  obtain ⟨hf, hop⟩ := hu.fam hm
  have hid := (hu.near hm).2.1
  have hc1 := okC_setId hc hid
  have s1 : Says c i [] (setId c m.id) := by
    rcases hi with rfl | ⟨rfl, e⟩
    · exact says_id hid
    · rw [setId_same e]; exact says_nil c
  have hc2 : okC (setN (setId c m.id) (famE m.ae) m.next) ∧ Says (setId c m.id) h [] (setN (setId c m.id) (famE m.ae) m.next) := by
    rcases hh with ⟨rfl, e⟩ | ⟨rfl, e⟩
    · exact ⟨okC_setN hc1 (hop e), says_hop (hop e)⟩
    · have e' : m.next = nextC (setId c m.id) (famE m.ae) := e
      rw [setN_same hf e']; exact ⟨hc1, says_nil _⟩
  have s3 : Says (setN (setId c m.id) (famE m.ae) m.next) (updT m n) [m] _ := says_upd hc2.1 hu hn hk (fun _ => ⟨rfl, nextC_setN hf⟩)
  have := says_app (says_app s1 hc2.2) s3
  exact this
theorem putL_back {c : Ctx} {m : Msg} (hc : okC c) (h : LeanR m) (he : (putL c m).2.2 = 0) : Says c (putL c m).1 [m] (putL c m).2.1 := by
  unfold putL at he ⊢
  rw [leanR_iff.2 h] at he ⊢
  rw [if_neg (show ¬ (true = false) by simp)] at he ⊢
  by_cases hk : m.kind ≠ 11
  · rw [if_pos hk]; exact says_other h hk
  rw [if_neg hk] at he ⊢
  have hu := h.upd_of (by simpa using hk)
  by_cases hx : m.metric ≠ 65535 ∧ m.next = [] ∧ nextC c (famE m.ae) ≠ []
  · rw [if_pos hx] at he; exact absurd he (show ¬ ((9 : Int) = 0) by decide)
  rw [if_neg hx]
  have hle := leadC_le c m
  have hok := leadC_ok c m
  unfold headL knownL
  by_cases hm : m.metric = 65535
  · rw [if_pos hm, if_pos hm, List.nil_append]
    exact says_upd hc hu hle hok (fun q => absurd hm q)
  · rw [if_neg hm, if_neg hm]
    refine says_update hc hu hm hle hok ?_ ?_
    · by_cases hi : m.id = c.id
      · rw [if_pos hi]; exact .inr ⟨rfl, hi⟩
      · rw [if_neg hi]; exact .inl rfl
    · by_cases hnx : m.next = nextC c (famE m.ae)
      · rw [if_pos hnx]; exact .inr ⟨rfl, hnx⟩
      · rw [if_neg hnx]
        refine .inl ⟨rfl, fun e => ?_⟩
        exact hx ⟨hm, e, fun q => hnx (by rw [e, q])⟩
theorem putL_ok {c : Ctx} {m : Msg} (hc : okC c) (h : LeanR m) : okC (putL c m).2.1 := by
  unfold putL
  split
  · exact hc
  split
  · exact hc
  split
  · exact hc
  rename_i hk hx
  have hu := h.upd_of (by simpa using hk)
  have hk2 : okC (knownL c m) := by
    unfold knownL
    split
    · exact hc
    · rename_i hm
      obtain ⟨hf, hop⟩ := hu.fam hm
      have hc1 := okC_setId (i := m.id) hc (hu.near hm).2.1
      by_cases hne : m.next = []
      · have e : m.next = nextC (setId c m.id) (famE m.ae) := by
          rw [hne]
          show [] = nextC c (famE m.ae)
          cases hq : nextC c (famE m.ae) with
          | nil => rfl
          | cons a b => exact absurd ⟨hm, hne, by rw [hq]; simp⟩ hx
        rw [setN_same hf e]; exact hc1
      · exact okC_setN hc1 (hop hne)
  obtain ⟨a, b, c', d, e⟩ := inB_iff.1 hu.inn
  obtain ⟨h0, h1, h2, h3, h4, h5, h6⟩ := hk2
  show okC (setP (knownL c m) m.ae m.prefix_)
  unfold setP
  split
  · exact ⟨h0, h1, h2, h3, h4, h5, h6⟩
  · refine ⟨h0, ?_, ?_, ?_, h4, h5, h6⟩
    · dsimp only
      split
      · rename_i q; rw [q] at b; right; have : szA 1 = 4 := rfl; omega
      · exact h1
    · dsimp only
      split
      · rename_i q; rw [q] at b; right; have : szA 2 = 16 := rfl; omega
      · exact h2
    · dsimp only
      split
      · rename_i q; exact .inr (e q)
      · exact h3
theorem putL_err {c : Ctx} {m : Msg} (h : (putL c m).2.2 ≠ 0) : (putL c m).1 = [] ∧ (putL c m).2.1 = c ∧ ((putL c m).2.2 = 1 ∨ (putL c m).2.2 = 9) ∧ ((putL c m).2.2 = 1 ↔ leanB m = false) := by
  unfold putL at h ⊢
  by_cases hl : leanB m = false
  · rw [if_pos hl]; exact ⟨rfl, rfl, .inl rfl, ⟨fun _ => hl, fun _ => rfl⟩⟩
  rw [if_neg hl] at h ⊢
  by_cases hk : m.kind ≠ 11
  · rw [if_pos hk] at h; exact absurd rfl h
  rw [if_neg hk] at h ⊢
  by_cases hx : m.metric ≠ 65535 ∧ m.next = [] ∧ nextC c (famE m.ae) ≠ []
  · rw [if_pos hx]; exact ⟨rfl, rfl, .inr rfl, ⟨fun q => absurd q (show ¬ ((9 : Int) = 1) by decide), fun q => absurd q hl⟩⟩
  · rw [if_neg hx] at h; exact absurd rfl h
theorem tput_mono {t : Int} {a b : Bs} (h : a.length ≤ b.length) (hb : 1 ≤ t ∧ t ≤ 255 ∧ b.length ≤ 255) : (tput t a).1.length ≤ (tput t b).1.length := by
  unfold tput
  rw [if_pos ⟨hb.1, hb.2.1, by omega⟩, if_pos hb]; simp; omega
theorem putL_short {c : Ctx} {m : Msg} (h : LeanR m) (he : (putL c m).2.2 = 0) : (putL c m).1.length ≤ (plainL m).1.length := by
  unfold putL at he ⊢
  unfold plainL
  rw [leanR_iff.2 h] at he ⊢
  rw [if_neg (show ¬ (true = false) by simp)] at he ⊢
  rw [if_neg (show ¬ (true = false) by simp)]
  by_cases hk : m.kind ≠ 11
  · rw [if_pos hk, if_pos hk]; exact Nat.le_refl _
  rw [if_neg hk] at he ⊢
  rw [if_neg hk]
  have hu := h.upd_of (by simpa using hk)
  by_cases hx : m.metric ≠ 65535 ∧ m.next = [] ∧ nextC c (famE m.ae) ≠ []
  · rw [if_pos hx] at he; exact absurd he (show ¬ ((9 : Int) = 0) by decide)
  rw [if_neg hx]
  have l1 := updD_len hu (leadC c m)
  have l2 := updD_len hu 0
  have hs := encS_small hu.subs
  obtain ⟨_, _, _, h16, _, _⟩ := hu.pre
  have := tput_mono (t := 8) (a := updD m (leadC c m)) (b := updD m 0) (by omega) ⟨by omega, by omega, by omega⟩
  show ((headL c m ++ updT m (leadC c m)).length ≤ (_ ++ updT m 0).length)
  rw [List.length_append, List.length_append]
  have h2 : (headL c m).length ≤ (if m.metric = 65535 then [] else idT m.id ++ (if m.next = [] then [] else hopT m.next)).length := by
    unfold headL
    by_cases hm : m.metric = 65535
    · rw [if_pos hm, if_pos hm]; exact Nat.le_refl _
    · rw [if_neg hm, if_neg hm, List.length_append, List.length_append]
      have a1 : (if m.id = c.id then [] else idT m.id).length ≤ (idT m.id).length := by split <;> simp
      have a2 : (if m.next = nextC c (famE m.ae) then [] else hopT m.next).length ≤ (if m.next = [] then [] else hopT m.next).length := by
        by_cases hne : m.next = []
        · have e : m.next = nextC c (famE m.ae) := by
            rw [hne]
            cases hq : nextC c (famE m.ae) with
            | nil => rfl
            | cons a b => exact absurd ⟨hm, hne, by rw [hq]; simp⟩ hx
          rw [if_pos e]; simp
        · rw [if_neg hne]; split <;> simp
      omega
  unfold updT
  omega
end Go.VP
