/- The datagram of messages of Babel: program and document. -/
import Derived.Test.YtabekdfijifnfaaQFQ2
import Derived.Test.YtabekdfijifnfaaQFQ5
import Derived.Test.YtabekdfijifnfaaQPBase
import Derived.Test.YtabekdfijifnfaaQPCur
import Derived.Test.YtabekdfijifnfaaQPOct
import Derived.Test.YtabekdfijifnfaaQPTlv
import Derived.Test.YtabekdfijifnfaaQPSub
import Derived.Test.YtabekdfijifnfaaQPMsg
import Derived.Test.YtabekdfijifnfaaQPAll
import Derived.Test.YtabekdfijifnfaaQPWrap
import Derived.Test.YtabekdfijifnfaaQPBody
import Derived.Test.YtabekdfijifnfaaQFH
import Derived.Test.YtabekdfijifnfaaQPAddr
import Derived.Test.YtabekdfijifnfaaQPBits
import Derived.Test.YtabekdfijifnfaaQPField
import Derived.Test.YtabekdfijifnfaaQPFieldG
import Derived.Test.YtabekdfijifnfaaQPRoute
import Derived.Test.YtabekdfijifnfaaQPRouteG
import Derived.Test.YtabekdfijifnfaaQPTake
import Derived.Test.YtabekdfijifnfaaQPRouteB
import Derived.Test.YtabekdfijifnfaaQPCtx
import Derived.Test.YtabekdfijifnfaaQPCtxU
import Derived.Test.YtabekdfijifnfaaQPFieldB
import Derived.Test.YtabekdfijifnfaaQPCtxV
import Derived.Test.YtabekdfijifnfaaQPCtxW
import Derived.Test.YtabekdfijifnfaaQPCtxX
import Derived.Test.YtabekdfijifnfaaQPIntake
import Derived.Test.YtabekdfijifnfaaQPFold
import Derived.Test.YtabekdfijifnfaaQPParts
import Derived.Test.YtabekdfijifnfaaQPUpd
import Derived.Test.YtabekdfijifnfaaQPLeanR
import Derived.Test.YtabekdfijifnfaaQPCtxL
import Derived.Test.YtabekdfijifnfaaQPLead
import Derived.Test.YtabekdfijifnfaaQPLean
import Derived.Test.YtabekdfijifnfaaQPLeanD
import Derived.Test.YtabekdfijifnfaaQPLeanB
import Derived.Test.YtabekdfijifnfaaQPIntakeL
import Derived.Test.YtabekdfijifnfaaQPOutS
set_option linter.unusedVariables false
set_option linter.unusedSimpArgs false
set_option maxRecDepth 100000
namespace Go.VP
open Go Go.VI
theorem putL_small (c : Ctx) (m : Msg) : (putL c m).1.length ≤ 800 := by
  have h1 := idT_len m.id; have h2 := hopT_len m.next; have h3 : (updT m (leadC c m)).length ≤ 257 := tput_len _ _
  have h4 : (otherF m).length ≤ 257 := by
    unfold otherF routePut fieldPut
    split
    · split
      · exact tput_len _ _
      · simp
    split
    · exact tput_len _ _
    split
    · exact tput_len _ _
    · simp
  have h5 : (headL c m).length ≤ 514 := by
    unfold headL
    split
    · simp
    · have a1 : (if m.id = c.id then [] else idT m.id).length ≤ 257 := by
        split
        · simp
        · exact h1
      have a2 : (if m.next = nextC c (famE m.ae) then [] else hopT m.next).length ≤ 257 := by
        split
        · simp
        · exact h2
      rw [List.length_append]; omega
  unfold putL
  split
  · simp
  split
  · dsimp only; omega
  split
  · simp
  · dsimp only; rw [List.length_append]; omega
theorem plainL_small (m : Msg) : (plainL m).1.length ≤ 800 := by
  have h1 := idT_len m.id; have h2 := hopT_len m.next; have h3 : (updT m 0).length ≤ 257 := tput_len _ _
  have h4 : (otherF m).length ≤ 257 := by
    unfold otherF routePut fieldPut
    split
    · split
      · exact tput_len _ _
      · simp
    split
    · exact tput_len _ _
    split
    · exact tput_len _ _
    · simp
  unfold plainL
  split
  · simp
  split
  · dsimp only; omega
  · dsimp only; rw [List.length_append]; split
    · simp; omega
    · have h6 : (if m.next = [] then [] else hopT m.next).length ≤ 257 := by
        split
        · simp
        · exact h2
      rw [List.length_append]; omega
theorem oenc1_loop {l : List Msg} {n : Nat} (hl : l.length ≤ 100000) (hg : ∀ m ∈ l, GoodL m) (hb : ∀ m ∈ l, leanB m = true) : ∀ (d k i : Nat) (c : Ctx) (b : Bs), i + d = l.length → d < k → okC c → b.length ≤ 65531 →
    L_outlet_Encode_1 n k l b c.prefix_c0 c.prefix_c1 c.prefix_c2 c.prefix_c3 c.next_c0 c.next_c1 c.id i = some (trip (goO c (l.drop i) i b), ()) := by
  intro d
  induction d with
  | zero =>
    intro k i c b hd hk hc hbl
    obtain ⟨k, rfl⟩ : ∃ q, k = q + 1 := ⟨k - 1, by omega⟩
    rw [L_outlet_Encode_1_eq, ifn (by omega), wrap_is (by omega), List.drop_eq_nil_of_le (by omega)]; rfl
  | succ d ih =>
    intro k i c b hd hk hc hbl
    obtain ⟨k, rfl⟩ : ∃ q, k = q + 1 := ⟨k - 1, by omega⟩
    have hi : i < l.length := by omega
    have hp : 0 ≤ (i : Int) := by omega
    have hm := hb _ (List.getElem_mem hi)
    have hgm := hg _ (List.getElem_mem hi)
    have ih' := fun c b => ih k (i + 1) c b (by omega) (by omega)
    rw [show ((i + 1 : Nat) : Int) = (i : Int) + 1 by omega] at ih'
    rw [L_outlet_Encode_1_eq, ifd (by omega), if_pos hp, Int.toNat_natCast, bind_at hi, List.drop_eq_getElem_cons hi, goO]
    generalize l[i] = m at *
    have hlen := putL_small c m
    rw [show (S_api_Ctx.mk c.prefix_c0 c.prefix_c1 c.prefix_c2 c.prefix_c3 c.next_c0 c.next_c1 c.id) = c from rfl, lput_main hc hgm, Option.bind_some]
    dsimp only
    refine ne_step (fun he => by rw [if_pos he]) (fun he => ?_)
    rw [if_neg (show ¬ (putL c m).2.2 ≠ 0 from fun q => q he), if_pos (roomB_of (by omega))]
    refine dq_step' (fun q => by rw [if_pos q]) (fun q => ?_)
    rw [if_neg q, w64 (by omega) (by omega)]
    exact ih' _ _ (putL_ok hc (leanR_iff.1 hm)) (by omega)
theorem oenc0_loop {l : List Msg} {n : Nat} (hn : 1000000 ≤ n) (hl : l.length ≤ 100000) (hg : ∀ m ∈ l, GoodL m) : ∀ (d k i : Nat), i + d = l.length → d < k → (∀ m ∈ l.take i, leanB m = true) →
    L_outlet_Encode_0 n k l i = some (trip (match badL (l.drop i) i with | some j => ([], (j : Int), 1) | none => goO c0 l 0 []), ()) := by
  intro d
  induction d with
  | zero =>
    intro k i hd hk hq
    obtain ⟨k, rfl⟩ : ∃ q, k = q + 1 := ⟨k - 1, by omega⟩
    rw [List.take_of_length_le (by omega)] at hq
    have := oenc1_loop (n := n) hl hg hq l.length n 0 c0 [] (by omega) (by omega) okC_c0 (by simp)
    rw [L_outlet_Encode_0_eq, ifn (by omega), List.drop_eq_nil_of_le (by omega)]
    exact this
  | succ d ih =>
    intro k i hd hk hq
    obtain ⟨k, rfl⟩ : ∃ q, k = q + 1 := ⟨k - 1, by omega⟩
    have hi : i < l.length := by omega
    have hp : 0 ≤ (i : Int) := by omega
    have ih' := ih k (i + 1) (by omega) (by omega)
    rw [show ((i + 1 : Nat) : Int) = (i : Int) + 1 by omega] at ih'
    have hgm := hg _ (List.getElem_mem hi)
    rw [L_outlet_Encode_0_eq, ifd (by omega), if_pos hp, Int.toNat_natCast, bind_at hi, lright_is hgm, Option.bind_some, List.drop_eq_getElem_cons hi, badL]
    dsimp only
    cases hm : leanB l[i] with
    | false => rw [ifnf, if_pos rfl]
    | true =>
      rw [ifnt, if_neg (show ¬ (true = false) by simp), w64 (by omega) (by omega)]
      refine ih' (fun x hx => ?_)
      rw [List.take_succ_eq_append_getElem hi, List.mem_append, List.mem_singleton] at hx
      rcases hx with hx | rfl
      · exact hq x hx
      · exact hm
theorem oenc_is {l : List Msg} (hl : l.length ≤ 100000) (hg : ∀ m ∈ l, GoodL m) : g_outlet_Encode (l, ()) = some (trip (encO l), ()) := by
  show h_outlet_Encode fuel (l, ()) = _
  rw [h_outlet_Encode_eq]
  exact oenc0_loop (n := fuel) (Nat.le_of_lt (fuel_ge (by omega))) hl hg l.length fuel 0 (by omega) (fuel_ge (by omega)) (fun m hm => by simp at hm)
theorem oplain_loop {l : List Msg} {n : Nat} (hl : l.length ≤ 100000) (hg : ∀ m ∈ l, GoodL m) : ∀ (d k i : Nat) (x : Int), i + d = l.length → d < k → 0 ≤ x ∧ x ≤ 4 + 800 * i →
    L_outlet_Plain_0 n k l x i = some ((plainGo (l.drop i) x, ()), ()) := by
  intro d
  induction d with
  | zero =>
    intro k i x hd hk hx
    obtain ⟨k, rfl⟩ : ∃ q, k = q + 1 := ⟨k - 1, by omega⟩
    rw [L_outlet_Plain_0_eq, ifn (by omega), List.drop_eq_nil_of_le (by omega)]; rfl
  | succ d ih =>
    intro k i x hd hk hx
    obtain ⟨k, rfl⟩ : ∃ q, k = q + 1 := ⟨k - 1, by omega⟩
    have hi : i < l.length := by omega
    have hp : 0 ≤ (i : Int) := by omega
    have ih' := fun x => ih k (i + 1) x (by omega) (by omega)
    rw [show ((i + 1 : Nat) : Int) = (i : Int) + 1 by omega] at ih'
    have hgm := hg _ (List.getElem_mem hi)
    rw [L_outlet_Plain_0_eq, ifd (by omega), if_pos hp, Int.toNat_natCast, bind_at hi, lplain_is hgm, Option.bind_some, List.drop_eq_getElem_cons hi, plainGo]
    have hlen := plainL_small l[i]
    dsimp only
    cases hm : (plainL l[i]).2 with
    | false => rw [ifnf, if_pos rfl]
    | true =>
      rw [ifnt, if_neg (show ¬ (true = false) by simp), w64 (by omega) (by omega), w64 (by omega) (by omega)]
      exact ih' _ (by omega)
theorem oplain_is {l : List Msg} (hl : l.length ≤ 100000) (hg : ∀ m ∈ l, GoodL m) : g_outlet_Plain (l, ()) = some ((plainGo l 4, ()), ()) := by
  show h_outlet_Plain fuel (l, ()) = _
  rw [h_outlet_Plain_eq]
  exact oplain_loop (n := fuel) hl hg l.length fuel 0 4 (by omega) (fuel_ge (by omega)) (by omega)
theorem roenc1_loop {l : List Msg} {n : Nat} (hl : l.length ≤ 100000) (hg : ∀ m ∈ l, GoodL m) (hb : ∀ m ∈ l, leanB m = true) : ∀ (d k i : Nat) (c : Ctx) (b : Bs), i + d = l.length → d < k → okC c → b.length ≤ 65531 →
    L_ref25_Encode_1 n k l b c.prefix_c0 c.prefix_c1 c.prefix_c2 c.prefix_c3 c.next_c0 c.next_c1 c.id i = some (trip (goO c (l.drop i) i b), ()) := by
  intro d
  induction d with
  | zero =>
    intro k i c b hd hk hc hbl
    obtain ⟨k, rfl⟩ : ∃ q, k = q + 1 := ⟨k - 1, by omega⟩
    rw [L_ref25_Encode_1_eq, ifn (by omega), rwrap_is (by omega), List.drop_eq_nil_of_le (by omega)]; rfl
  | succ d ih =>
    intro k i c b hd hk hc hbl
    obtain ⟨k, rfl⟩ : ∃ q, k = q + 1 := ⟨k - 1, by omega⟩
    have hi : i < l.length := by omega
    have hp : 0 ≤ (i : Int) := by omega
    have hm := hb _ (List.getElem_mem hi)
    have hgm := hg _ (List.getElem_mem hi)
    have ih' := fun c b => ih k (i + 1) c b (by omega) (by omega)
    rw [show ((i + 1 : Nat) : Int) = (i : Int) + 1 by omega] at ih'
    rw [L_ref25_Encode_1_eq, ifd (by omega), if_pos hp, Int.toNat_natCast, bind_at hi, List.drop_eq_getElem_cons hi, goO]
    generalize l[i] = m at *
    have hlen := putL_small c m
    rw [show (S_api_Ctx.mk c.prefix_c0 c.prefix_c1 c.prefix_c2 c.prefix_c3 c.next_c0 c.next_c1 c.id) = c from rfl, rput_main hc hgm, Option.bind_some]
    dsimp only
    refine ne_step (fun he => by rw [if_pos he]) (fun he => ?_)
    rw [if_neg (show ¬ (putL c m).2.2 ≠ 0 from fun q => q he), if_pos (maxB_of (by omega))]
    refine dq_step' (fun q => by rw [if_pos q]) (fun q => ?_)
    rw [if_neg q, w64 (by omega) (by omega)]
    exact ih' _ _ (putL_ok hc (leanR_iff.1 hm)) (by omega)
theorem roenc0_loop {l : List Msg} {n : Nat} (hn : 1000000 ≤ n) (hl : l.length ≤ 100000) (hg : ∀ m ∈ l, GoodL m) : ∀ (d k i : Nat), i + d = l.length → d < k → (∀ m ∈ l.take i, leanB m = true) →
    L_ref25_Encode_0 n k l i = some (trip (match badL (l.drop i) i with | some j => ([], (j : Int), 1) | none => goO c0 l 0 []), ()) := by
  intro d
  induction d with
  | zero =>
    intro k i hd hk hq
    obtain ⟨k, rfl⟩ : ∃ q, k = q + 1 := ⟨k - 1, by omega⟩
    rw [List.take_of_length_le (by omega)] at hq
    have := roenc1_loop (n := n) hl hg hq l.length n 0 c0 [] (by omega) (by omega) okC_c0 (by simp)
    rw [L_ref25_Encode_0_eq, ifn (by omega), List.drop_eq_nil_of_le (by omega)]
    exact this
  | succ d ih =>
    intro k i hd hk hq
    obtain ⟨k, rfl⟩ : ∃ q, k = q + 1 := ⟨k - 1, by omega⟩
    have hi : i < l.length := by omega
    have hp : 0 ≤ (i : Int) := by omega
    have ih' := ih k (i + 1) (by omega) (by omega)
    rw [show ((i + 1 : Nat) : Int) = (i : Int) + 1 by omega] at ih'
    have hgm := hg _ (List.getElem_mem hi)
    rw [L_ref25_Encode_0_eq, ifd (by omega), if_pos hp, Int.toNat_natCast, bind_at hi, rlright_is hgm, Option.bind_some, List.drop_eq_getElem_cons hi, badL]
    dsimp only
    cases hm : leanB l[i] with
    | false => rw [ifnf, if_pos rfl]
    | true =>
      rw [ifnt, if_neg (show ¬ (true = false) by simp), w64 (by omega) (by omega)]
      refine ih' (fun x hx => ?_)
      rw [List.take_succ_eq_append_getElem hi, List.mem_append, List.mem_singleton] at hx
      rcases hx with hx | rfl
      · exact hq x hx
      · exact hm
theorem roenc_is {l : List Msg} (hl : l.length ≤ 100000) (hg : ∀ m ∈ l, GoodL m) : g_ref25_Encode (l, ()) = some (trip (encO l), ()) := by
  show h_ref25_Encode fuel (l, ()) = _
  rw [h_ref25_Encode_eq]
  exact roenc0_loop (n := fuel) (Nat.le_of_lt (fuel_ge (by omega))) hl hg l.length fuel 0 (by omega) (fuel_ge (by omega)) (fun m hm => by simp at hm)
theorem roplain_loop {l : List Msg} {n : Nat} (hl : l.length ≤ 100000) (hg : ∀ m ∈ l, GoodL m) : ∀ (d k i : Nat) (x : Int), i + d = l.length → d < k → 0 ≤ x ∧ x ≤ 4 + 800 * i →
    L_ref25_Plain_0 n k l x i = some ((plainGo (l.drop i) x, ()), ()) := by
  intro d
  induction d with
  | zero =>
    intro k i x hd hk hx
    obtain ⟨k, rfl⟩ : ∃ q, k = q + 1 := ⟨k - 1, by omega⟩
    rw [L_ref25_Plain_0_eq, ifn (by omega), List.drop_eq_nil_of_le (by omega)]; rfl
  | succ d ih =>
    intro k i x hd hk hx
    obtain ⟨k, rfl⟩ : ∃ q, k = q + 1 := ⟨k - 1, by omega⟩
    have hi : i < l.length := by omega
    have hp : 0 ≤ (i : Int) := by omega
    have ih' := fun x => ih k (i + 1) x (by omega) (by omega)
    rw [show ((i + 1 : Nat) : Int) = (i : Int) + 1 by omega] at ih'
    have hgm := hg _ (List.getElem_mem hi)
    rw [L_ref25_Plain_0_eq, ifd (by omega), if_pos hp, Int.toNat_natCast, bind_at hi, rplain_is hgm, Option.bind_some, List.drop_eq_getElem_cons hi, plainGo]
    have hlen := plainL_small l[i]
    dsimp only
    cases hm : (plainL l[i]).2 with
    | false => rw [ifnf, if_pos rfl]
    | true =>
      rw [ifnt, if_neg (show ¬ (true = false) by simp), w64 (by omega) (by omega), w64 (by omega) (by omega)]
      exact ih' _ (by omega)
theorem roplain_is {l : List Msg} (hl : l.length ≤ 100000) (hg : ∀ m ∈ l, GoodL m) : g_ref25_Plain (l, ()) = some ((plainGo l 4, ()), ()) := by
  show h_ref25_Plain fuel (l, ()) = _
  rw [h_ref25_Plain_eq]
  exact roplain_loop (n := fuel) hl hg l.length fuel 0 4 (by omega) (fuel_ge (by omega)) (by omega)
end Go.VP
