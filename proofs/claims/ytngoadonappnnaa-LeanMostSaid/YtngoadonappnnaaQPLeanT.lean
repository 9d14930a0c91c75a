/- What a message's bytes tell, as the laws of lean take it. -/
import Derived.Test.YtngoadonappnnaaQFQ5
import Derived.Test.YtngoadonappnnaaQPBase
import Derived.Test.YtngoadonappnnaaQPCur
import Derived.Test.YtngoadonappnnaaQPOct
import Derived.Test.YtngoadonappnnaaQPTlv
import Derived.Test.YtngoadonappnnaaQPSub
import Derived.Test.YtngoadonappnnaaQPMsg
import Derived.Test.YtngoadonappnnaaQPAll
import Derived.Test.YtngoadonappnnaaQPAddr
import Derived.Test.YtngoadonappnnaaQPBits
import Derived.Test.YtngoadonappnnaaQPField
import Derived.Test.YtngoadonappnnaaQPFieldG
import Derived.Test.YtngoadonappnnaaQPFieldB
import Derived.Test.YtngoadonappnnaaQPRoute
import Derived.Test.YtngoadonappnnaaQPRouteG
import Derived.Test.YtngoadonappnnaaQPTake
import Derived.Test.YtngoadonappnnaaQPRouteB
import Derived.Test.YtngoadonappnnaaQPCtx
import Derived.Test.YtngoadonappnnaaQPCtxU
import Derived.Test.YtngoadonappnnaaQPCtxV
import Derived.Test.YtngoadonappnnaaQPCtxW
import Derived.Test.YtngoadonappnnaaQPCtxX
import Derived.Test.YtngoadonappnnaaQPIntake
import Derived.Test.YtngoadonappnnaaQPFold
import Derived.Test.YtngoadonappnnaaQPParts
import Derived.Test.YtngoadonappnnaaQPOk
import Derived.Test.YtngoadonappnnaaQPUpd
import Derived.Test.YtngoadonappnnaaQPLeanR
import Derived.Test.YtngoadonappnnaaQPCtxL
import Derived.Test.YtngoadonappnnaaQPLead
import Derived.Test.YtngoadonappnnaaQPLean
import Derived.Test.YtngoadonappnnaaQPLeanD
import Derived.Test.YtngoadonappnnaaQPLeanB
set_option linter.unusedVariables false
set_option linter.unusedSimpArgs false
set_option maxRecDepth 100000
namespace Go.VP
open Go Go.VI
theorem take_go {l : List Tlv} {a b : Int} {n : Nat} (hl : l.length ≤ 1000) (hq : ∀ t ∈ l, Tg' t) : ∀ (d m i : Nat) (c : Ctx) (acc : List Msg), i + d = l.length → d < m → okC c → acc.length ≤ i → (foldR c (l.drop i) acc).2.2.2 = 0 →
    L_law24_take_0 n m ((l, a, b, ()), ()) c.prefix_c0 c.prefix_c1 c.prefix_c2 c.prefix_c3 c.next_c0 c.next_c1 c.id 0 acc i = some (((foldR c (l.drop i) acc).1, (foldR c (l.drop i) acc).2.1, true, ()), ()) := by
  intro d
  induction d with
  | zero =>
    intro m i c acc hd hm hc ha h0
    obtain ⟨m, rfl⟩ : ∃ k, m = k + 1 := ⟨m - 1, by omega⟩
    rw [L_law24_take_0_eq]
    dsimp only
    rw [ifn (by omega), List.drop_eq_nil_of_le (by omega)]; rfl
  | succ d ih =>
    intro m i c acc hd hm hc ha h0
    obtain ⟨m, rfl⟩ : ∃ k, m = k + 1 := ⟨m - 1, by omega⟩
    have hi : i < l.length := by omega
    have hp : 0 ≤ (i : Int) := by omega
    have hT := hq _ (List.getElem_mem hi)
    have hbo := msgBo2
    have ih' := fun c acc => ih m (i + 1) c acc (by omega) (by omega)
    rw [show ((i + 1 : Nat) : Int) = (i : Int) + 1 by omega] at ih'
    rw [List.drop_eq_getElem_cons hi] at h0 ⊢
    rw [L_law24_take_0_eq]
    dsimp only
    rw [ifd (by omega), w64 (by omega) (by omega)]
    simp only [if_pos hp, Int.toNat_natCast, List.getElem?_eq_getElem hi, Option.bind_some]
    generalize l[i] = t at *
    obtain ⟨ty, at_, D⟩ := t
    obtain ⟨⟨⟨t1, t2⟩, t3⟩, t4, t5⟩ := hT
    have t1 : 0 ≤ ty := t1
    have t2 : ty ≤ 255 := t2
    have t3 : D.length ≤ 255 := t3
    have t4 : ty ≠ 0 := t4
    have t5 : ty ≠ 1 := t5
    have ho := okC_one (ty := ty) (d := D) hc
    rw [foldR] at h0 ⊢
    dsimp only at h0 ⊢
    have room : ∀ k : Nat, k ≤ 1 → roomB ((acc.length + k) * bo_api_Msg) = true := fun k hk => roomB_of (Nat.le_trans (Nat.mul_le_mul (show acc.length + k ≤ 1001 by omega) hbo) (by decide))
    have room1 : ∀ x : Msg, roomB ((acc.length + [x].length) * bo_api_Msg) = true := fun x => room 1 (by omega)
    have hctx : (S_api_Ctx.mk c.prefix_c0 c.prefix_c1 c.prefix_c2 c.prefix_c3 c.next_c0 c.next_c1 c.id) = c := rfl
    have res : ∀ G : Msg × Bool × Int, oneR c ty D = resF c G → (if (G.2.2 != 0) = true then (some (([], c, false, ()), ()) : Option ((List Msg × Ctx × Bool × Unit) × Unit)) else (if G.2.1 = true then (if roomB ((acc.length + [G.1].length) * bo_api_Msg) = true then (L_law24_take_0 n m ((l, a, b, ()), ()) c.prefix_c0 c.prefix_c1 c.prefix_c2 c.prefix_c3 c.next_c0 c.next_c1 c.id G.2.2 (acc ++ [G.1]) ((i : Int) + 1)) else none) else (L_law24_take_0 n m ((l, a, b, ()), ()) c.prefix_c0 c.prefix_c1 c.prefix_c2 c.prefix_c3 c.next_c0 c.next_c1 c.id G.2.2 acc ((i : Int) + 1)))) = some (((if (oneR c ty D).2.2 ≠ 0 then ([], c0, at_, (oneR c ty D).2.2) else foldR (oneR c ty D).1 (l.drop (i + 1)) (acc ++ (oneR c ty D).2.1)).1, (if (oneR c ty D).2.2 ≠ 0 then ([], c0, at_, (oneR c ty D).2.2) else foldR (oneR c ty D).1 (l.drop (i + 1)) (acc ++ (oneR c ty D).2.1)).2.1, true, ()), ()) := by
      intro G hG
      obtain ⟨gm, gb, ge⟩ := G
      by_cases he : ge ≠ 0
      · have e : oneR c ty D = (c, [], ge) := by rw [hG]; unfold resF; rw [if_pos he]
        rw [e] at h0
        dsimp only at h0
        rw [if_pos he] at h0; exact absurd h0 he
      have he0 : ge = 0 := by simpa using he
      subst he0
      dsimp only
      rw [if_neg (by simp)]
      cases gb with
      | true =>
        have e : oneR c ty D = (c, [gm], 0) := by rw [hG, resF_yes]
        rw [e] at h0 ⊢
        rw [if_neg (show ¬ ((c, [gm], (0 : Int)).2.2 ≠ 0) by simp)] at h0 ⊢
        rw [ift, if_pos (room1 _)]
        exact ih' c (acc ++ [gm]) hc (by simp; omega) h0
      | false =>
        have e : oneR c ty D = (c, [], 0) := by rw [hG]; unfold resF; rw [if_neg (by simp), if_neg (by simp)]
        rw [e] at h0 ⊢
        rw [if_neg (show ¬ ((c, ([] : List Msg), (0 : Int)).2.2 ≠ 0) by simp)] at h0 ⊢
        dsimp only at h0 ⊢
        rw [List.append_nil] at h0 ⊢
        rw [iff_]
        exact ih' c acc hc (by omega) h0
    rw [ifd (show 2 ≤ ty by omega)]
    by_cases h5 : ty ≤ 5
    · rw [ifd h5, rgetF_is (by omega) (by omega), Option.bind_some]
      exact res _ (by unfold oneR; rw [if_neg (by omega), if_neg (by omega), if_pos (by omega)])
    rw [ifn h5]
    refine bq_step (fun h9 => ?_) (fun h9 => ?_)
    · rw [rgetR_is (by omega) (by omega), Option.bind_some]
      exact res _ (by unfold oneR; rw [if_neg (by omega), if_neg (by omega), if_neg (by omega), if_pos (by omega)])
    refine bq_step (fun h10 => ?_) (fun h10 => ?_)
    · rw [rgetR_is (by omega) (by omega), Option.bind_some]
      exact res _ (by unfold oneR; rw [if_neg (by omega), if_neg (by omega), if_neg (by omega), if_pos (by omega)])
    by_cases h6 : 6 ≤ ty
    · rw [ifd h6]
      by_cases h8 : ty ≤ 8
      · have e : oneR c ty D = stepC c ty D := by unfold oneR; rw [if_neg (by omega), if_pos (by omega)]
        rw [ifd h8, hctx, rcstep_is hc (by omega) (by omega), Option.bind_some]
        rw [e] at h0 ho ⊢
        dsimp only
        rw [if_pos (room _ ho.2)]
        by_cases he : (stepC c ty D).2.2 ≠ 0
        · rw [if_pos he] at h0; exact absurd h0 he
        · have he0 : (stepC c ty D).2.2 = 0 := by simpa using he
          rw [if_neg he] at h0 ⊢
          rw [he0, if_neg (by simp)]
          exact ih' _ _ ho.1 (by rw [List.length_append]; omega) h0
      · have e : oneR c ty D = (c, [opaqueM ty D], 0) := by unfold oneR; rw [if_neg (by omega), if_neg (by omega), if_neg (by omega), if_neg (by omega)]
        rw [e] at h0 ⊢
        rw [if_neg (show ¬ (0 : Int) ≠ 0 by decide)] at h0 ⊢
        rw [ifn h8, if_neg (by simp), if_pos (room1 _)]
        exact ih' c (acc ++ [opaqueM ty D]) hc (by simp; omega) h0
    · omega
theorem rtake24_is {c d : Ctx} {s : Bs} {M : List Msg} (hc : okC c) (hs : s.length ≤ 900) (h : Says c s M d) : g_law24_take (c, s, ()) = some ((M, d, true, ()), ()) := by
  obtain ⟨l, h1, h2, h3⟩ := h 0
  have hl := (spl_ok s 0 l h1).2
  have h0 := h3 []
  show h_law24_take fuel (c, s, ()) = _
  rw [h_law24_take_eq, rsplit_is (by omega) (by omega), Option.bind_some, h1]
  dsimp only [trip, splOut]
  refine ne_step (fun q => absurd rfl q) (fun _ => ?_)
  have := take_go (a := 0) (b := 0) (n := fuel) (by omega) h2 l.length fuel 0 c [] (by omega) (fuel_ge (by omega)) hc (by simp) (by rw [List.drop_zero, h0])
  rw [List.drop_zero, h0] at this
  exact this
theorem headL_len (c : Ctx) (m : Msg) : (headL c m).length ≤ 514 := by
  have := idT_len m.id; have := hopT_len m.next
  unfold headL
  split
  · simp
  · rw [List.length_append]; split <;> split <;> simp <;> omega
theorem otherF_len (m : Msg) : (otherF m).length ≤ 257 := by
  unfold otherF routePut fieldPut
  split
  · split
    · exact tput_len _ _
    · simp
  split
  · exact tput_len _ _
  split
  · exact tput_len _ _
  · simp
theorem putL_len (c : Ctx) (m : Msg) : (putL c m).1.length ≤ 800 := by
  have := headL_len c m; have := otherF_len m; have := updT_len m (leadC c m)
  unfold putL
  split
  · simp
  split
  · dsimp only; omega
  split
  · simp
  · dsimp only; rw [List.length_append]; omega
theorem plainL_len (m : Msg) : (plainL m).1.length ≤ 800 := by
  have := idT_len m.id; have := hopT_len m.next; have := otherF_len m; have := updT_len m 0
  unfold plainL
  split
  · simp
  split
  · dsimp only; omega
  · dsimp only; rw [List.length_append]; split
    · simp; omega
    · rw [List.length_append]; split <;> simp <;> omega
theorem awake24 : g_law24_awake () = some ((true, ()), ()) := by kernel_rfl
theorem awb24 {α : Type} (f : (Bool × Unit) × Unit → Option α) : (g_law24_awake ()).bind f = f ((true, ()), ()) := by rw [awake24]; rfl
end Go.VP
