import Derived.Test.YthmafkkiefndnaaGreatJM0
import Derived.Test.YthmafkkiefndnaaGreatJM1
import Derived.Test.YthmafkkiefndnaaGreatJFQ7
import Derived.Test.YthmafkkiefndnaaGreatJFQ15
import Derived.Test.YthmafkkiefndnaaGreatJFH
import Derived.Test.YthmafkkiefndnaaGreatJFGood
import Derived.Test.YthmafkkiefndnaaGreatJFQ4
set_option linter.unusedVariables false
set_option linter.unusedSimpArgs false
set_option maxRecDepth 100000
namespace Go.VP
open Go Go.VI
theorem avB_cases {m : Msg} (h : avB m = true) : RqR m ∨ RpR m ∨ AkR m ∨ ReR m := by
  unfold avB at h
  simp only [Bool.or_eq_true, rqB_iff, rpB_iff, reB_iff] at h
  rcases h with h | (h | h) | h
  · exact .inl h
  · exact .inr (.inl h)
  · exact .inr (.inr (.inl h))
  · exact .inr (.inr (.inr h))
theorem avB_of {m : Msg} (h : RqR m ∨ RpR m ∨ AkR m ∨ ReR m) : avB m = true := by
  unfold avB
  simp only [Bool.or_eq_true, rqB_iff, rpB_iff, reB_iff]
  rcases h with h | h | h | h
  · exact .inl h
  · exact .inr (.inl (.inl h))
  · exact .inr (.inl (.inr h))
  · exact .inr (.inr h)
theorem put_rq {m : Msg} (h : RqR m) : avPut m = rqBytes m := by unfold avPut; rw [if_pos (rqB_iff.2 h)]
theorem put_rp {m : Msg} (h : RpR m) : avPut m = rpBytes m := by
  have := h.kind
  unfold avPut; rw [if_neg (fun q => by have := (rqB_iff.1 q).kind; omega), if_pos (rpB_iff.2 (.inl h)), if_neg (by omega)]
theorem put_ak {m : Msg} (h : AkR m) : avPut m = akBytes m := by
  have := h.kind
  unfold avPut; rw [if_neg (fun q => by have := (rqB_iff.1 q).kind; omega), if_pos (rpB_iff.2 (.inr h)), if_pos (by omega)]
theorem put_re {m : Msg} (h : ReR m) : avPut m = reBytes m := by
  have := h.kind
  unfold avPut; rw [if_neg (fun q => by have := (rqB_iff.1 q).kind; omega), if_neg (fun q => by rcases rpB_iff.1 q with q | q <;> (have := q.kind; omega)), if_pos (reB_iff.2 h)]
theorem encAv_one {m : Msg} (h : avB m = true) : encAv [m] = if 65535 < (avPut m).length then ([], 0, 10) else (avPut m, 0, 0) := by
  unfold encAv
  rw [badP_ok (fun x hx => by rw [List.mem_singleton.1 hx]; exact h)]
theorem tailE_place {b : Bs} {p : Nat} {m : Msg} (hp : p ≤ b.length) : 0 ≤ (tailE b p m).2.1 ∧ (tailE b p m).2.1 ≤ b.length := by
  have := getE_place (b.drop p)
  rw [List.length_drop] at this
  unfold tailE
  split
  · dsimp only; omega
  · dsimp only; omega
theorem avGet_place {b : Bs} (h : 1 ≤ b.length) : 0 ≤ (avGet b).2.1 ∧ (avGet b).2.1 ≤ b.length := by
  unfold avGet
  split
  · unfold rqGet
    split
    · dsimp only; omega
    split
    · dsimp only; omega
    · exact tailE_place (by omega)
  split
  · unfold reGet
    split
    · dsimp only; omega
    split
    · dsimp only; omega
    split
    · dsimp only; omega
    split
    · dsimp only; omega
    · exact tailE_place (by omega)
  · unfold rpGet
    split
    · split
      · dsimp only; omega
      split
      · dsimp only; omega
      · exact tailE_place (by omega)
    · split
      · dsimp only; omega
      split
      · dsimp only; omega
      · exact tailE_place (by omega)
theorem av_parseerr {b : Bs} (h : (parseAv b).2.2 ≠ 0) : (parseAv b).1 = [] ∧ 0 ≤ (parseAv b).2.1 ∧ (parseAv b).2.1 ≤ b.length := by
  unfold parseAv at h ⊢
  split
  · exact ⟨rfl, by dsimp only; omega, by dsimp only; omega⟩
  · rename_i h1
    rw [if_neg h1] at h
    split
    · exact ⟨rfl, by dsimp only; omega, by dsimp only; omega⟩
    · rename_i h2
      rw [if_neg h2] at h
      split
      · exact ⟨rfl, by dsimp only; omega, by dsimp only; omega⟩
      · rename_i h3
        rw [if_neg h3] at h
        split
        · exact ⟨rfl, avGet_place (by omega)⟩
        · rename_i h4
          rw [if_neg h4] at h; exact absurd rfl h
theorem av_again {b : Bs} (h : (parseAv b).2.2 = 0) : ∃ m, parseAv b = ([m], 0, 0) ∧ avB m = true ∧ avPut m = b ∧ encAv [m] = (b, 0, 0) ∧ b.length ≤ 65535 ∧ m.subs.length ≤ b.length := by
  unfold parseAv at h ⊢
  by_cases h1 : 65535 < b.length
  · rw [if_pos h1] at h; cases h
  by_cases h2 : b.length = 0
  · rw [if_neg h1, if_pos h2] at h; cases h
  by_cases h3 : bt b 0 < 1 ∨ 4 < bt b 0
  · rw [if_neg h1, if_neg h2, if_pos h3] at h; cases h
  by_cases h4 : (avGet b).2.2 ≠ 0
  · rw [if_neg h1, if_neg h2, if_neg h3, if_pos h4] at h; exact absurd h h4
  rw [if_neg h1, if_neg h2, if_neg h3, if_neg h4]
  have h4 := Classical.byContradiction h4
  have fin : ∀ m, avGet b = (m, 0, 0) → avB m = true → avPut m = b → m.subs.length ≤ b.length → ∃ m', ([(avGet b).1], (0 : Int), (0 : Int)) = ([m'], 0, 0) ∧ avB m' = true ∧ avPut m' = b ∧ encAv [m'] = (b, 0, 0) ∧ b.length ≤ 65535 ∧ m'.subs.length ≤ b.length := fun m e hm hp hs => by
    refine ⟨m, by rw [e], hm, hp, ?_, by omega, hs⟩
    rw [encAv_one hm, hp, if_neg h1]
  by_cases c1 : bt b 0 = 1
  · have e : avGet b = rqGet b := by unfold avGet; rw [if_pos c1]
    rw [e] at h4 fin ⊢
    obtain ⟨k1, k2, k3, k4⟩ := rq_again c1 h4
    exact fin _ k1 (avB_of (.inl k2)) (by rw [put_rq k2, k3]) k4
  by_cases c3 : bt b 0 = 3
  · have e : avGet b = reGet b := by unfold avGet; rw [if_neg c1, if_pos c3]
    rw [e] at h4 fin ⊢
    obtain ⟨k1, k2, k3, k4⟩ := re_again c3 h4
    exact fin _ k1 (avB_of (.inr (.inr (.inr k2)))) (by rw [put_re k2, k3]) k4
  have e : avGet b = rpGet b := by unfold avGet; rw [if_neg c1, if_neg c3]
  rw [e] at h4 fin ⊢
  by_cases c4 : bt b 0 = 4
  · obtain ⟨k1, k2, k3, k4⟩ := ak_again (by omega) c4 h4
    exact fin _ k1 (avB_of (.inr (.inr (.inl k2)))) (by rw [put_ak k2, k3]) k4
  · obtain ⟨k1, k2, k3, k4⟩ := rp_again c4 (by have := bt_rng b 0; omega) h4
    exact fin _ k1 (avB_of (.inr (.inl k2))) (by rw [put_rp k2, k3]) k4
theorem AllE.fewS {l : List Sub} (h : AllE l) (hl : l.length ≤ 1000000) : FewS l := ⟨by omega, fun y hy => by have := (h y hy).2.2; omega⟩
theorem avB_good {m : Msg} (h : avB m = true) (hs : m.subs.length ≤ 1000000) : GoodV m := by
  have z : IntKind.has .i64 0 := has64.2 (by omega)
  have w8 : ∀ {n : Int}, W8 n → IntKind.has .i64 n := fun h => has64.2 (by have := h.1; have := h.2; omega)
  rcases avB_cases h with h | h | h | h
  · have hl : m.list = [] := congrArg S_api_Msg.list h.is
    have hi : m.interval = 0 := congrArg S_api_Msg.interval h.is
    exact ⟨h.nonce.has, h.seq.has, h.seq2.has, w8 h.hops, by rw [hi]; exact z, by rw [hl]; simp, by rw [hl]; intro d hd; (cases hd), (allE_iff.1 h.subs).fewS hs, hs⟩
  · have hl : m.list = [] := congrArg S_api_Msg.list h.is
    have h1 : m.nonce = 0 := congrArg S_api_Msg.nonce h.is
    have h2 : m.seq2 = 0 := congrArg S_api_Msg.seq2 h.is
    exact ⟨by rw [h1]; exact z, h.seq.has, by rw [h2]; exact z, w8 h.hops, h.life.has, by rw [hl]; simp, by rw [hl]; intro d hd; (cases hd), (allE_iff.1 h.subs).fewS hs, hs⟩
  · have hl : m.list = [] := congrArg S_api_Msg.list h.is
    have h1 : m.nonce = 0 := congrArg S_api_Msg.nonce h.is
    have h2 : m.seq2 = 0 := congrArg S_api_Msg.seq2 h.is
    have h3 : m.seq = 0 := congrArg S_api_Msg.seq h.is
    have h4 : m.hops = 0 := congrArg S_api_Msg.hops h.is
    have h5 : m.interval = 0 := congrArg S_api_Msg.interval h.is
    exact ⟨by rw [h1]; exact z, by rw [h3]; exact z, by rw [h2]; exact z, by rw [h4]; exact z, by rw [h5]; exact z, by rw [hl]; simp, by rw [hl]; intro d hd; (cases hd), (allE_iff.1 h.subs).fewS hs, hs⟩
  · have h1 : m.nonce = 0 := congrArg S_api_Msg.nonce h.is
    have h2 : m.seq2 = 0 := congrArg S_api_Msg.seq2 h.is
    have h3 : m.seq = 0 := congrArg S_api_Msg.seq h.is
    have h4 : m.hops = 0 := congrArg S_api_Msg.hops h.is
    have h5 : m.interval = 0 := congrArg S_api_Msg.interval h.is
    exact ⟨by rw [h1]; exact z, by rw [h3]; exact z, by rw [h2]; exact z, by rw [h4]; exact z, by rw [h5]; exact z, by have := h.len; omega, fun d hd => (destB_ok (List.all_eq_true.1 h.list d hd)).2.has, (allE_iff.1 h.subs).fewS hs, hs⟩
end Go.VP
set_option linter.unusedVariables false
set_option linter.unusedSimpArgs false
set_option maxRecDepth 100000
namespace Go.VP
open Go Go.VI
structure GoodQ (m : Msg) : Prop where
  rip : RM m
  ng : GoodG m
  av : GoodV m
  lean : GoodL m
open Classical in
noncomputable def rightP (p : Int) (m : Msg) : Bool := if p = 1 then rightR m else if p = 2 then ngB m else if p = 3 then avB m else if p = 4 then leanB m else false
end Go.VP
set_option linter.unusedVariables false
set_option linter.unusedSimpArgs false
set_option maxRecDepth 100000
namespace Go.VP
open Go Go.VI
theorem spl_place (s : Bs) : ∀ (p : Int), (∀ q, spl p s = .error q → p ≤ q ∧ q ≤ p + s.length) ∧ (∀ l, spl p s = .ok l → ∀ t ∈ l, p ≤ t.at_ ∧ t.at_ ≤ p + s.length) := by
  induction h : s.length using Nat.strongRecOn generalizing s with
  | ind n ih =>
    intro p
    subst h
    match s with
    | [] =>
      rw [spl_nil]
      exact ⟨(fun q h => by cases h), (fun l h => by cases h; intro t ht; cases ht)⟩
    | t :: r =>
      by_cases ht : t = 0
      · subst ht
        rw [spl_zero]
        obtain ⟨i1, i2⟩ := ih r.length (by simp) r rfl (p + 1)
        cases hr : spl (p + 1) r with
        | error q =>
          refine ⟨fun q' h => ?_, (fun l h => by cases h)⟩
          cases h
          have := i1 q hr
          simp only [List.length_cons]; omega
        | ok l =>
          refine ⟨(fun q' h => by cases h), fun l' h x hx => ?_⟩
          cases h
          rcases List.mem_cons.1 hx with rfl | hx
          · dsimp only; omega
          · have := i2 l hr x hx
            simp only [List.length_cons]; omega
      · match r with
        | [] =>
          rw [spl_one ht]
          exact ⟨(fun q h => by cases h; simp; omega), (fun l h => by cases h)⟩
        | n :: d =>
          by_cases hn : d.length < n.toNat
          · rw [spl_bad ht hn]
            exact ⟨(fun q h => by cases h; simp only [List.length_cons]; omega), (fun l h => by cases h)⟩
          · rw [spl_all ht (by omega)]
            have hdl : (d.drop n.toNat).length = d.length - n.toNat := List.length_drop
            obtain ⟨i1, i2⟩ := ih (d.drop n.toNat).length (by rw [hdl]; simp; omega) (d.drop n.toNat) rfl (p + 2 + n.toNat)
            rw [hdl] at i1 i2
            cases hr : spl (p + 2 + n.toNat) (d.drop n.toNat) with
            | error q =>
              refine ⟨fun q' h => ?_, (fun l h => by cases h)⟩
              cases h
              have := i1 q hr
              simp only [List.length_cons]; omega
            | ok l =>
              refine ⟨(fun q' h => by cases h), fun l' h x hx => ?_⟩
              cases h
              rcases List.mem_cons.1 hx with rfl | hx
              · simp only [List.length_cons]; omega
              · have := i2 l hr x hx
                simp only [List.length_cons]; omega
theorem foldR_place : ∀ (l : List Tlv) (c : Ctx) (acc : List Msg), (foldR c l acc).2.2.2 ≠ 0 → ∃ t ∈ l, (foldR c l acc).2.2.1 = t.at_
  | [], c, acc, h => absurd rfl h
  | t :: r, c, acc, h => by
    rw [foldR] at h ⊢
    by_cases he : (oneR c t.type_ t.data).2.2 ≠ 0
    · rw [if_pos he]; exact ⟨t, List.mem_cons_self .., rfl⟩
    · rw [if_neg he] at h ⊢
      obtain ⟨x, hx, e⟩ := foldR_place r _ _ h
      exact ⟨x, List.mem_cons_of_mem _ hx, e⟩
theorem parseI_place {b : Bs} (h : (parseI b).2.2 ≠ 0) : (parseI b).1 = [] ∧ 0 ≤ (parseI b).2.1 ∧ (parseI b).2.1 ≤ b.length := by
  refine ⟨(parseI_cases b).elim (fun q => q.2) (fun ⟨l, _, _, _, _, q⟩ => absurd (by rw [q]) h), ?_⟩
  unfold parseI at h ⊢
  by_cases h0 : (bodyF b).2.2 ≠ 0
  · rw [if_pos h0]; exact (bodyF_bad h0).2
  rw [if_neg h0] at h ⊢
  obtain ⟨l1, l2, _, _, l5, _, l7⟩ := bodyF_ok (Classical.byContradiction h0)
  have hr := sizeB_rng b
  have hbl : ((behF b).length : Int) = b.length - (4 + (bodyF b).1.length) := by unfold behF; rw [List.length_drop]; omega
  have p1 := spl_place (bodyF b).1 4
  have p2 := spl_place (behF b) (4 + ((bodyF b).1.length : Int))
  cases h1 : spl 4 (bodyF b).1 with
  | error q =>
    have := p1.1 q h1
    dsimp only; omega
  | ok l =>
    rw [h1] at h
    cases h2 : spl (4 + ((bodyF b).1.length : Int)) (behF b) with
    | error q =>
      have := p2.1 q h2
      dsimp only; omega
    | ok k =>
      rw [h2] at h
      dsimp only at h ⊢
      obtain ⟨t, ht, e⟩ := foldR_place l c0 [] h
      have := p1.2 l h1 t ht
      omega
noncomputable def parseP (p : Int) (b : Bs) : List Msg × Int × Int := if p = 1 then parseR b else if p = 2 then parseN b else if p = 3 then parseAv b else if p = 4 then parseI b else ([], 0, 1)
def GoodP (p : Int) (m : Msg) : Prop := (p = 1 → RM m) ∧ (p = 2 → GoodG m) ∧ (p = 3 → GoodV m) ∧ (p = 4 → GoodL m)
theorem GoodQ.p {m : Msg} (g : GoodQ m) (p : Int) : GoodP p m := ⟨fun _ => g.rip, fun _ => g.ng, fun _ => g.av, fun _ => g.lean⟩
theorem sparse_is {p : Int} {b : Bs} (hb : b.length ≤ 100000) : g_suite_Parse (p, b, ()) = some (trip (parseP p b), ()) := by
  rw [g_suite_Parse_eq]
  unfold parseP
  refine bq_step (fun h => by rw [if_pos h, parse_is hb]; rfl) (fun h1 => ?_)
  rw [if_neg h1]
  refine bq_step (fun h => by rw [if_pos h, ngparse_is (by omega)]; rfl) (fun h2 => ?_)
  rw [if_neg h2]
  refine bq_step (fun h => by rw [if_pos h, avparse_is (by omega)]; rfl) (fun h3 => ?_)
  rw [if_neg h3]
  refine bq_step (fun h => by rw [if_pos h, iparse_is]; rfl) (fun h4 => ?_)
  rw [if_neg h4]
theorem p_parseerr {p : Int} {b : Bs} (h : (parseP p b).2.2 ≠ 0) : (parseP p b).1 = [] ∧ 0 ≤ (parseP p b).2.1 ∧ (parseP p b).2.1 ≤ b.length := by
  unfold parseP at h ⊢
  by_cases h1 : p = 1
  · simp only [if_pos h1] at h ⊢; exact parseR_err h
  simp only [if_neg h1] at h ⊢
  by_cases h2 : p = 2
  · simp only [if_pos h2] at h ⊢; exact ng_parseerr h
  simp only [if_neg h2] at h ⊢
  by_cases h3 : p = 3
  · simp only [if_pos h3] at h ⊢; exact av_parseerr h
  simp only [if_neg h3] at h ⊢
  by_cases h4 : p = 4
  · simp only [if_pos h4] at h ⊢; exact parseI_place h
  · simp only [if_neg h4] at h ⊢
    exact ⟨trivial, by simp, by simp⟩
theorem ngR_good {m : Msg} (h : NgR m) : GoodG m ∧ Small m := by
  have hl : m.list = [] := congrArg S_api_Msg.list h.is
  have hs : m.subs = [] := congrArg S_api_Msg.subs h.is
  have := h.tag
  have := h.plen
  have := h.cmd
  exact ⟨⟨has64.2 (by omega), has64.2 (by omega), has64.2 (by omega), by rw [hl]; simp, by rw [hs]; simp⟩, by rw [hl]; simp, by rw [hs]; simp⟩
theorem rm_parse2 {b : Bs} : ∀ m ∈ (parseR b).1, okR m → RM m := fun m hm ho => by
  have hs := parseR_all (b := b) (P := fun m => m.list.length ≤ 1000000000 ∧ m.subs.length ≤ 1000000000) (fun c v s e => by simp [routeM]) m hm
  obtain ⟨_, _, _, _, _, _, _, h⟩ := ho
  exact ⟨has64.2 (by omega), has64.2 (by omega), hs.1, hs.2⟩
theorem p_parsed {p : Int} {b : Bs} (hb : b.length ≤ 100000) (h : (parseP p b).2.2 = 0) : (parseP p b).2.1 = 0 ∧ (∀ m ∈ (parseP p b).1, rightP p m = true ∧ GoodP p m ∧ Small m) ∧ (parseP p b).1.length ≤ 65535 ∧ (p = 1 → (parseP p b).1.length ≤ 1000) := by
  unfold parseP at h ⊢
  unfold rightP GoodP
  by_cases h1 : p = 1
  · simp only [if_pos h1] at h ⊢
    obtain ⟨r, r1, r2, r3, r4, r5⟩ := parse_good h
    have hrm := rm_parse2 (b := b)
    rw [r1] at hrm ⊢
    exact ⟨rfl, fun m hm => ⟨rightR_true.2 (r4 m hm), ⟨fun _ => hrm m hm (r4 m hm), fun q => by omega, fun q => by omega, fun q => by omega⟩, (hrm m hm (r4 m hm)).list, (hrm m hm (r4 m hm)).subs⟩, by dsimp only; omega, fun _ => by dsimp only; omega⟩
  simp only [if_neg h1] at h ⊢
  by_cases h2 : p = 2
  · simp only [if_pos h2] at h ⊢
    obtain ⟨k0, k1, k2, k3, _, _⟩ := ng_again h
    exact ⟨k0, fun m hm => ⟨ngR_iff.2 (k1 m hm), ⟨fun q => by omega, fun _ => (ngR_good (k1 m hm)).1, fun q => by omega, fun q => by omega⟩, (ngR_good (k1 m hm)).2⟩, by omega, fun q => absurd q h1⟩
  simp only [if_neg h2] at h ⊢
  by_cases h3 : p = 3
  · simp only [if_pos h3] at h ⊢
    obtain ⟨m, k1, k2, k3, k4, k5, k6⟩ := av_again h
    rw [k1]
    have hg := avB_good k2 (by omega)
    exact ⟨rfl, fun x hx => by rw [List.mem_singleton.1 hx]; exact ⟨k2, ⟨fun q => by omega, fun q => by omega, fun _ => hg, fun q => by omega⟩, by have := hg.list; omega, by have := hg.subs1; omega⟩, by simp, fun q => absurd q h1⟩
  simp only [if_neg h3] at h ⊢
  by_cases h4 : p = 4
  · simp only [if_pos h4] at h ⊢
    obtain ⟨k1, k2⟩ := parseI_right b
    refine ⟨?_, fun m hm => ⟨leanR_iff.2 (k1 m hm).1, ⟨fun q => by omega, fun q => by omega, fun q => by omega, fun _ => (k1 m hm).2⟩, (k1 m hm).2.small⟩, k2, fun q => absurd q h1⟩
    rcases parseI_cases b with ⟨q, _⟩ | ⟨l, _, _, _, _, q⟩
    · exact absurd h q
    · rw [q]
  · simp only [if_neg h4] at h; cases h
end Go.VP
set_option linter.unusedVariables false
set_option linter.unusedSimpArgs false
set_option maxRecDepth 100000
namespace Go.VP
open Go Go.VI
abbrev quad {α β γ δ : Type} (x : α × β × γ × δ) : α × β × γ × δ × Unit := (x.1, x.2.1, x.2.2.1, x.2.2.2, ())
noncomputable def joinGo (p : Int) : List Bs → Nat → List Msg → List Msg × Int × Int × Int
  | [], _, acc => (acc, 0, 0, 0)
  | b :: r, i, acc => if (parseP p b).2.2 ≠ 0 then ([], (i : Int), (parseP p b).2.1, (parseP p b).2.2) else joinGo p r (i + 1) (acc ++ (parseP p b).1)
noncomputable def joinP (p : Int) (d : List Bs) : List Msg × Int × Int × Int := if p < 1 ∨ 4 < p then ([], 0, 0, 1) else joinGo p d 0 []
theorem parse_len {p : Int} {b : Bs} (hb : b.length ≤ 100000) : (parseP p b).1.length ≤ 65535 := by
  by_cases h : (parseP p b).2.2 = 0
  · exact (p_parsed hb h).2.2.1
  · rw [(p_parseerr h).1]; simp
theorem room_msgs {a b : Nat} (h : a + b ≤ 300000000) : roomB ((a + b) * bo_api_Msg) = true :=
  roomB_of (Nat.le_trans (Nat.mul_le_mul h msgBo) (by decide))
theorem join_loop {n : Nat} {p : Int} {d : List Bs} (hd : d.length ≤ 1000) (hb : ∀ b ∈ d, b.length ≤ 100000) : ∀ (k m i : Nat) (acc : List Msg), i + k = d.length → k < m → acc.length ≤ 65535 * i →
    L_join_Join_0 n m p d acc i = some (quad (joinGo p (d.drop i) i acc), ()) := by
  intro k
  induction k with
  | zero =>
    intro m i acc h hm ha
    obtain ⟨m, rfl⟩ : ∃ j, m = j + 1 := ⟨m - 1, by omega⟩
    rw [L_join_Join_0_eq, ifn (by omega), List.drop_eq_nil_of_le (by omega)]; rfl
  | succ k ih =>
    intro m i acc h hm ha
    obtain ⟨m, rfl⟩ : ∃ j, m = j + 1 := ⟨m - 1, by omega⟩
    have hi : i < d.length := by omega
    have hl := hb _ (List.getElem_mem hi)
    have hpl := parse_len (p := p) hl
    rw [L_join_Join_0_eq, ifd (by omega), if_pos (by omega), Int.toNat_natCast, bind_at hi, sparse_is hl, Option.bind_some, List.drop_eq_getElem_cons hi, joinGo]
    refine ne_step (fun q => ?_) (fun q => ?_)
    · rw [if_pos q]
    · have := ih m (i + 1) (acc ++ (parseP p d[i]).1) (by omega) (by omega) (by rw [List.length_append]; omega)
      rw [show ((i + 1 : Nat) : Int) = (i : Int) + 1 by omega] at this
      rw [if_neg (show ¬ (parseP p d[i]).2.2 ≠ 0 from fun c => c q), w64 (by omega) (by omega), ← this]
      exact if_pos (room_msgs (a := acc.length) (b := (parseP p d[i]).1.length) (by omega))
theorem join_is {p : Int} {d : List Bs} (hd : d.length ≤ 1000) (hb : ∀ b ∈ d, b.length ≤ 100000) : g_join_Join (p, d, ()) = some (quad (joinP p d), ()) := by
  show h_join_Join fuel _ = _
  rw [h_join_Join_eq]
  unfold joinP
  refine dq_step (fun h => by rw [if_pos (Or.inl h)]) (fun h1 => ?_)
  refine dq_step (fun h => by rw [if_pos (Or.inr h)]) (fun h2 => ?_)
  rw [if_neg (show ¬ (p < 1 ∨ 4 < p) by omega)]
  exact join_loop (n := fuel) hd hb d.length fuel 0 [] (by omega) (fuel_ge (by omega)) (by simp)
theorem joinGo_any {p : Int} : ∀ (d : List Bs) (i k : Nat) (acc : List Msg), joinGo p d (i + k) acc = if (joinGo p d i []).2.2.2 ≠ 0 then ([], (joinGo p d i []).2.1 + k, (joinGo p d i []).2.2.1, (joinGo p d i []).2.2.2) else (acc ++ (joinGo p d i []).1, 0, 0, 0)
  | [], i, k, acc => by simp [joinGo]
  | b :: r, i, k, acc => by
    rw [joinGo, joinGo]
    by_cases h : (parseP p b).2.2 ≠ 0
    · rw [if_pos h, if_pos h, if_pos h]
      show ([], ((i + k : Nat) : Int), _, _) = ([], (i : Int) + k, _, _)
      rw [Int.natCast_add]
    · rw [if_neg h, if_neg h, List.nil_append]
      have e1 := joinGo_any (p := p) r (i + 1) k (acc ++ (parseP p b).1)
      have e2 := joinGo_any (p := p) r (i + 1) 0 (parseP p b).1
      rw [show i + 1 + k = i + k + 1 by omega] at e1
      rw [Nat.add_zero] at e2
      rw [e1, e2]
      by_cases q : (joinGo p r (i + 1) []).2.2.2 ≠ 0
      · rw [if_pos q, if_pos q, if_pos q]; simp
      · rw [if_neg q, if_neg q, if_neg (by simp), List.append_assoc]
theorem joinGo_app {p : Int} : ∀ (a b : List Bs) (i : Nat) (acc : List Msg), joinGo p (a ++ b) i acc = if (joinGo p a i acc).2.2.2 ≠ 0 then joinGo p a i acc else joinGo p b (i + a.length) (joinGo p a i acc).1
  | [], b, i, acc => by simp [joinGo]
  | x :: a, b, i, acc => by
    rw [List.cons_append, joinGo, joinGo]
    by_cases h : (parseP p x).2.2 ≠ 0
    · rw [if_pos h, if_pos h, if_pos h]
    · rw [if_neg h, if_neg h, joinGo_app a b (i + 1), List.length_cons, show i + 1 + a.length = i + (a.length + 1) by omega]
theorem joinGo_err {p : Int} : ∀ (d : List Bs) (i : Nat) (acc : List Msg), (joinGo p d i acc).2.2.2 ≠ 0 → (joinGo p d i acc).1 = []
  | [], i, acc, h => by simp [joinGo] at h
  | b :: r, i, acc, h => by
    rw [joinGo] at h ⊢
    by_cases q : (parseP p b).2.2 ≠ 0
    · rw [if_pos q]
    · rw [if_neg q] at h ⊢; exact joinGo_err r _ _ h
theorem joinGo_ok {p : Int} : ∀ (d : List Bs) (i : Nat) (acc : List Msg), (∀ b ∈ d, b.length ≤ 100000) → (∀ m ∈ acc, Small m) → (∀ m ∈ (joinGo p d i acc).1, Small m) ∧ (joinGo p d i acc).1.length ≤ acc.length + 65535 * d.length
  | [], i, acc, _, h => ⟨h, by simp [joinGo]⟩
  | b :: r, i, acc, hb, h => by
    rw [joinGo]
    by_cases q : (parseP p b).2.2 ≠ 0
    · rw [if_pos q]; exact ⟨fun m hm => (by cases hm), by simp⟩
    · rw [if_neg q]
      have hl := hb b (List.mem_cons_self ..)
      have hp := parse_len (p := p) hl
      obtain ⟨k1, k2⟩ := joinGo_ok (p := p) r (i + 1) (acc ++ (parseP p b).1) (fun x hx => hb x (List.mem_cons_of_mem _ hx)) (fun m hm => (List.mem_append.1 hm).elim (h m) (fun hm => ((p_parsed hl (Classical.byContradiction q)).2.1 m hm).2.2))
      exact ⟨k1, by rw [List.length_append] at k2; rw [List.length_cons]; omega⟩
end Go.VP
