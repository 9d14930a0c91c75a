/- Messages of Babel that may be; what one TLV tells may be. -/
import Derived.Test.YtabekdfijifnfaaQPBase
import Derived.Test.YtabekdfijifnfaaQPCur
import Derived.Test.YtabekdfijifnfaaQPOct
import Derived.Test.YtabekdfijifnfaaQPTlv
import Derived.Test.YtabekdfijifnfaaQPSub
import Derived.Test.YtabekdfijifnfaaQPMsg
import Derived.Test.YtabekdfijifnfaaQPAddr
import Derived.Test.YtabekdfijifnfaaQPBits
import Derived.Test.YtabekdfijifnfaaQPField
import Derived.Test.YtabekdfijifnfaaQPFieldG
import Derived.Test.YtabekdfijifnfaaQPFieldB
import Derived.Test.YtabekdfijifnfaaQPRoute
import Derived.Test.YtabekdfijifnfaaQPRouteG
import Derived.Test.YtabekdfijifnfaaQPTake
import Derived.Test.YtabekdfijifnfaaQPRouteB
import Derived.Test.YtabekdfijifnfaaQPCtx
import Derived.Test.YtabekdfijifnfaaQPCtxU
import Derived.Test.YtabekdfijifnfaaQPCtxV
import Derived.Test.YtabekdfijifnfaaQPCtxW
import Derived.Test.YtabekdfijifnfaaQPCtxX
import Derived.Test.YtabekdfijifnfaaQPIntake
import Derived.Test.YtabekdfijifnfaaQPFold
import Derived.Test.YtabekdfijifnfaaQPParts
import Derived.Test.YtabekdfijifnfaaQPUpd
set_option linter.unusedVariables false
set_option linter.unusedSimpArgs false
set_option maxRecDepth 100000
namespace Go.VP
open Go Go.VI
structure OpqR (m : Msg) : Prop where
  kind : m.kind = 14
  bare : bareB m = true
  ty : 10 < m.type_ ∧ m.type_ < 256
  len : m.data.length < 256
inductive LeanR (m : Msg) : Prop
  | field (h : FieldR m)
  | route (h : RouteR m)
  | upd (h : UpdR m)
  | opq (h : OpqR m)
structure GoodL (m : Msg) : Prop where
  good : GoodM m
  ty : IntKind.has .i64 m.type_
  metric : IntKind.has .i64 m.metric
theorem takeG_subs {d : Bs} (h : (takeG d).1.have_ = 1) (hk : (takeG d).2.1 = true) : AllR (takeG d).1.subs ∧ sumN (takeG d).1.subs ≤ 200 ∧ (takeG d).1.subs.length ≤ d.length ∧ 10 + sumN (takeG d).1.subs ≤ d.length ∧ (0 ≤ (takeG d).1.interval ∧ (takeG d).1.interval < 65536) ∧ (0 ≤ (takeG d).1.seq ∧ (takeG d).1.seq < 65536) ∧ (0 ≤ (takeG d).1.plen ∧ (takeG d).1.plen ≤ highA (takeG d).1.ae) := by
  have b0 := bt_rng d 0
  have b2 := bt_rng d 2
  unfold takeG at h hk ⊢
  split at hk
  · cases hk
  rename_i h1
  split at hk
  · cases hk
  rename_i h2
  rw [if_neg h1, if_neg h2] at h ⊢
  dsimp only at h hk ⊢
  split at hk
  · cases hk
  rename_i h3
  split at hk
  · cases hk
  rename_i h4
  rw [if_neg h3, if_neg h4] at h ⊢
  dsimp only at h ⊢
  have h3' : (preF d 10 (bt d 0) (bt d 2) (bt d 3)).2 = 0 := by simpa using h3
  have hrest : 0 ≤ restN (bt d 0) (bt d 2) (bt d 3) := by
    unfold preF at h3'
    split at h3'
    · cases h3'
    · omega
  have hg : greatB (bt d 0) (bt d 2) = false := by
    unfold preF at h3'
    split at h3'
    · cases h3'
    · rename_i q; cases e : greatB (bt d 0) (bt d 2) with
      | false => rfl
      | true => exact absurd (.inl e) q
  have hp : lowA (bt d 0) ≤ bt d 2 ∧ bt d 2 ≤ highA (bt d 0) := by unfold greatB at hg; simpa using hg
  rcases getS_cases (d.drop (10 + restN (bt d 0) (bt d 2) (bt d 3)).toNat) with ⟨l, e, q1, q2, q3, q4⟩ | ⟨l, e⟩ | ⟨x, e, q⟩
  · rw [e] at h ⊢
    rw [List.length_drop] at q3 q4
    exact ⟨q1, q2, by dsimp only; omega, by dsimp only; omega, num_cut_rng (by omega) (by omega), num_cut_rng (by omega) (by omega), by omega, hp.2⟩
  · rw [e] at h; cases h
  · rw [e] at h4; exact absurd q h4
theorem updF_cases {c : Ctx} {d : Bs} (hc : okC c) (hd : d.length ≤ 900) : (updF c d).2.1 = [] ∨ ∃ m, (updF c d).2.1 = [m] ∧ UpdR m ∧ GoodL m ∧ sumN m.subs + 10 ≤ d.length ∧ (updF c d).2.2 = 0 ∧ (m.metric ≠ 65535 → (updF c d).1.id = m.id ∧ nextC (updF c d).1 (famE m.ae) = m.next) := by
  unfold updF
  split
  rotate_left
  · exact .inl rfl
  rename_i ht
  split
  rotate_left
  · exact .inl rfl
  rename_i ha
  split
  rotate_left
  · exact .inl rfl
  rename_i hto
  obtain ⟨hr, h0⟩ := takeG_raw ht
  have hl := addrF_len hc hr ha
  have hk := addrF_link hc hr ha
  have h1 : (takeG d).1.have_ = 1 := by
    unfold toldB at hto; simp at hto; exact hto.1
  obtain ⟨s1, s2, s3, s4, s5, s6, s7⟩ := takeG_subs h1 ht
  have hclean : keepF (addrF c (takeG d).1).1 (takeG d).1.plen = (addrF c (takeG d).1).1 := by
    unfold addrF at ha ⊢
    split
    · unfold wholeF; exact keepF_idem _ _
    · rename_i q; rw [if_neg q] at ha
      split
      · rename_i q2; rw [if_pos q2] at ha; cases ha
      · unfold wholeF; exact keepF_idem _ _
  have hok := okC_flags hc hr hl hk
  have hlow := hr.low
  have hsub2 := sub_len (l := (takeG d).1.subs)
  generalize (takeG d).1 = r at *
  generalize (addrF c r).1 = a at *
  have hae := hr.ae
  have hme := hr.metric
  have hsz : szA r.ae ≤ 16 := by unfold szA; split <;> (try split) <;> (try split) <;> omega
  have hmu : (updM (flagsF c r a) r a).metric = r.metric := rfl
  have hhi : highA r.ae ≤ 128 := by unfold highA; split <;> (try split) <;> (try split) <;> omega
  generalize hfc : flagsF c r a = F at *
  have hFid : r.metric ≠ 65535 → F.id.length = 8 ∧ 0 < r.ae := fun hm => by
    unfold toldB at hto
    simp [h1, hm] at hto
    rcases hok.2.2.2.2.2.2 with q | q
    · exact absurd q hto.2
    · exact ⟨q, hto.1⟩
  have hFn : r.metric ≠ 65535 → nextC F (famE r.ae) = [] ∨ famF (nextC F (famE r.ae)) = famE r.ae := fun hm => by
    have hp := (hFid hm).2
    have hf := famE_rng (ae := r.ae) (by omega)
    unfold nextC
    by_cases f0 : famE r.ae = 0
    · rw [if_pos f0, f0]
      rcases hok.2.2.2.2.1 with q | q
      · exact .inl q
      · right; unfold famF; rw [if_pos q]
    · rw [if_neg f0, show famE r.ae = 1 by omega]
      rcases hok.2.2.2.2.2.1 with q | q
      · exact .inl q
      · right; unfold famF; rw [if_neg (by omega), if_pos q]
  have e0 : ([] : Bs).length ≤ 400 := by decide
  have n0 : ([] : List Dest).length ≤ 1000 := by decide
  have has0 : IntKind.has .i64 0 := has64.2 (by omega)
  have hnl : (if r.metric = 65535 then ([] : Bs) else (if famE r.ae = 0 then F.next_c0 else F.next_c1)).length ≤ 400 := by
    split
    · exact e0
    · have := hok.2.2.2.2.1; have := hok.2.2.2.2.2.1
      split
      · rcases hok.2.2.2.2.1 with q | q
        · rw [q]; exact e0
        · omega
      · rcases hok.2.2.2.2.2.1 with q | q
        · rw [q]; exact e0
        · omega
  have hil : (if r.metric = 65535 then ([] : Bs) else F.id).length ≤ 400 := by
    split
    · exact e0
    · rcases hok.2.2.2.2.2.2 with q | q
      · rw [q]; exact e0
      · omega
  refine .inr ⟨updM F r a, rfl, ⟨rfl, ?_, rightB_of s1 s2, ?_, s5, s6, by rw [hmu]; omega, fun hm => ?_, fun hm => ?_⟩, ⟨⟨⟨n0, by show r.subs.length ≤ 1000; omega, e0, by show a.length ≤ 400; omega, hnl, hil, e0, e0, e0, (fun d h => by cases h), s1.few⟩, has0, has64.2 (by show _ ≤ r.interval ∧ r.interval ≤ _; omega), has64.2 (by show _ ≤ r.seq ∧ r.seq ≤ _; omega), has0, has64.2 (by show _ ≤ (11 : Int) ∧ (11 : Int) ≤ _; omega), has0, has64.2 (by show _ ≤ r.ae ∧ r.ae ≤ _; omega), has64.2 (by show _ ≤ r.plen ∧ r.plen ≤ _; omega), has0⟩, has0, has64.2 (by rw [hmu]; omega)⟩, by show sumN r.subs + 10 ≤ _; omega, rfl, fun hm => ?_⟩
  · have : bareOf (updM F r a) = some (updM F r a) := rfl
    rw [bareB, this]; exact eqB_refl _
  · exact inB_iff.2 ⟨hae, hl, ⟨hlow, s7.2⟩, hclean, hk⟩
  · have hm' : r.metric = 65535 := hm
    show (if r.metric = 65535 then [] else F.id) = [] ∧ (if r.metric = 65535 then [] else _) = []
    rw [if_pos hm', if_pos hm']; exact ⟨rfl, rfl⟩
  · have hm' : r.metric ≠ 65535 := hm
    show 0 < r.ae ∧ (if r.metric = 65535 then [] else F.id).length = 8 ∧ ((if r.metric = 65535 then [] else nextC F (famE r.ae)) = [] ∨ famF (if r.metric = 65535 then [] else nextC F (famE r.ae)) = famE r.ae)
    rw [if_neg hm', if_neg hm']
    exact ⟨(hFid hm').2, (hFid hm').1, hFn hm'⟩
  · have hm' : r.metric ≠ 65535 := hm
    show F.id = (if r.metric = 65535 then [] else F.id) ∧ nextC F (famE r.ae) = (if r.metric = 65535 then [] else nextC F (famE r.ae))
    rw [if_neg hm', if_neg hm']
    exact ⟨rfl, rfl⟩
end Go.VP
