/- What is laid of a message where something is known: the document's. -/
import Derived.Test.YtabekdfijifnfaaQFQ3
import Derived.Test.YtabekdfijifnfaaQFQ4
import Derived.Test.YtabekdfijifnfaaQFQ5
import Derived.Test.YtabekdfijifnfaaQPBase
import Derived.Test.YtabekdfijifnfaaQPCur
import Derived.Test.YtabekdfijifnfaaQPOct
import Derived.Test.YtabekdfijifnfaaQPTlv
import Derived.Test.YtabekdfijifnfaaQPSub
import Derived.Test.YtabekdfijifnfaaQPMsg
import Derived.Test.YtabekdfijifnfaaQPAll
import Derived.Test.YtabekdfijifnfaaQPWrap
import Derived.Test.YtabekdfijifnfaaQPBody
import Derived.Test.YtabekdfijifnfaaQPAddr
import Derived.Test.YtabekdfijifnfaaQPBits
import Derived.Test.YtabekdfijifnfaaQPField
import Derived.Test.YtabekdfijifnfaaQPFieldG
import Derived.Test.YtabekdfijifnfaaQPFieldB
import Derived.Test.YtabekdfijifnfaaQPRoute
import Derived.Test.YtabekdfijifnfaaQPRouteG
import Derived.Test.YtabekdfijifnfaaQPTake
import Derived.Test.YtabekdfijifnfaaQPRouteB
import Derived.Test.YtabekdfijifnfaaQPCtx
import Derived.Test.YtabekdfijifnfaaQPCtxU
import Derived.Test.YtabekdfijifnfaaQFH
import Derived.Test.YtabekdfijifnfaaQPCtxV
import Derived.Test.YtabekdfijifnfaaQPCtxW
import Derived.Test.YtabekdfijifnfaaQPCtxX
import Derived.Test.YtabekdfijifnfaaQPIntake
import Derived.Test.YtabekdfijifnfaaQPFold
import Derived.Test.YtabekdfijifnfaaQPParts
import Derived.Test.YtabekdfijifnfaaQPUpd
import Derived.Test.YtabekdfijifnfaaQPLeanR
import Derived.Test.YtabekdfijifnfaaQPCtxL
import Derived.Test.YtabekdfijifnfaaQPLead
import Derived.Test.YtabekdfijifnfaaQPLean
set_option linter.unusedVariables false
set_option linter.unusedSimpArgs false
set_option maxRecDepth 100000
namespace Go.VP
open Go Go.VI
theorem rid_is {s : Bs} (hs : s.length ≤ 10000) : g_ref24_id (s, ()) = some ((idT s, ()), ()) := by
  rw [g_ref24_id_eq, if_pos (maxB_of (by omega)), rtput_is, Option.bind_some]; rfl
theorem hopD_link {a : Bs} (h : linkB a = true) : hopD a = 3 :: 0 :: a.drop 8 := by unfold hopD; rw [if_pos h]
theorem hopD_4 {a : Bs} (h : ¬ linkB a = true) (h4 : a.length = 4) : hopD a = 1 :: 0 :: a := by unfold hopD; rw [if_neg h, if_pos h4]
theorem hopD_16 {a : Bs} (h : ¬ linkB a = true) (h4 : ¬ a.length = 4) : hopD a = 2 :: 0 :: a := by unfold hopD; rw [if_neg h, if_neg h4]
theorem rhop24_is {a : Bs} (h : a.length = 4 ∨ a.length = 16) : g_ref24_hop (a, ()) = some ((hopT a, ()), ()) := by
  rw [g_ref24_hop_eq, if_pos (maxB_of (by omega)), rlink_is]
  unfold hopT
  simp only [Option.bind_some]
  by_cases hl : linkB a = true
  · have := (linkB_len hl).1
    rw [hopD_link hl, if_neg (by simp; omega), if_pos hl, if_pos (by omega), if_pos (maxB_of (by simp; omega)), rtput_is, Option.bind_some]; rfl
  · by_cases h4 : a.length = 4
    · rw [hopD_4 hl h4, if_pos (by simp; omega), if_pos (maxB_of (by omega)), if_neg hl, rtput_is, Option.bind_some]; rfl
    · rw [hopD_16 hl h4, if_neg (by simp; omega), if_neg hl, rtput_is, Option.bind_some]; rfl
theorem of2_is {n : Int} (h : 0 ≤ n ∧ n < 65536) : g_ref02_Of (n, 2, ()) = some ((be 2 n, ()), ()) := by
  have := rof_is (n := n) (k := 2) (has64.2 (by omega)) (by omega) (by omega)
  unfold oput at this
  rw [if_pos (fitsB2.2 h)] at this
  exact this
theorem rupd24_is {m : Msg} {N : Nat} (h : UpdR m) (hfs : FewS m.subs) (hN : N ≤ (bytesP m).length) : g_ref24_update (m, (N : Int), ()) = some ((updT m N, ()), ()) := by
  obtain ⟨hae, hpl, hbl, h16, hbs, hp16⟩ := h.pre
  have u1 : u8of (IntKind.wrap .u8 m.ae) = u8of m.ae := u8w hae.1
  have u2 : u8of (IntKind.wrap .u8 m.plen) = u8of m.plen := u8w hpl.1
  have u3 : u8of (IntKind.wrap .u8 (N : Int)) = u8of N := u8w (by omega)
  have b2 : ∀ x, (be 2 x).length = 2 := fun x => be_length 2 x
  have hsl := encS_small h.subs
  have hsp := rsput_is hfs (by have := hfs.1; have := (rightB_split h.subs).2; have := sub_len (l := m.subs); omega)
  rw [putS_r h.subs] at hsp
  rw [g_ref24_update_eq, u1, u2, u3, hsp, of2_is h.iv, of2_is h.sq, of2_is h.me, rlbytes_is h]
  unfold updT updD flagU
  simp only [Option.bind_some]
  refine bq_step (fun h0 => ?_) (fun h0 => ?_)
  · rw [if_pos (maxB_of (by simp [b2])), if_pos (maxB_of (by simp [b2])), if_pos (maxB_of (by simp [b2])), if_pos (by omega), Int.toNat_natCast, if_pos (maxB_of (by simp [b2]; omega)), if_pos (maxB_of (by simp [b2]; omega)), rtput_is, Option.bind_some, if_pos h0]
    simp only [List.append_assoc]; rfl
  · rw [if_pos (maxB_of (by simp [b2])), if_pos (maxB_of (by simp [b2])), if_pos (maxB_of (by simp [b2])), if_pos (by omega), Int.toNat_natCast, if_pos (maxB_of (by simp [b2]; omega)), if_pos (maxB_of (by simp [b2]; omega)), rtput_is, Option.bind_some, if_neg h0]
    simp only [List.append_assoc]; rfl
theorem updT_len (m : Msg) (n : Nat) : (updT m n).length ≤ 257 := tput_len _ _
theorem rtail24 {R : Type} {c : Ctx} {m : Msg} (hc : okC c) (h : UpdR m) {U : Int → Option ((Bs × Unit) × Unit)} {K1 K2 : ((Bs × Unit) × Unit) → Option R} {r : Option R}
    (hr : (if m.ae = 0 then (U ((leadC c m : Nat) : Int)).bind K2 else (U ((leadC c m : Nat) : Int)).bind K1) = r) :
    (if (m.ae != 0) = true then (if 0 ≤ m.ae ∧ m.ae < 4 then (if (!((if m.ae = 0 then c.prefix_c0 else (if m.ae = 1 then c.prefix_c1 else (if m.ae = 2 then c.prefix_c2 else c.prefix_c3))) == ([] : Bs))) = true then (if 0 ≤ m.ae ∧ m.ae < 4 then ((g_ref21_Base (m.ae, ())).bind fun r6 => (if 0 ≤ r6.1.1 ∧ r6.1.1 ≤ ((if m.ae = 0 then c.prefix_c0 else (if m.ae = 1 then c.prefix_c1 else (if m.ae = 2 then c.prefix_c2 else c.prefix_c3))).length : Int) then ((g_ref21_Bytes (m, ())).bind fun r7 => ((g_ref04_Lead (((if m.ae = 0 then c.prefix_c0 else (if m.ae = 1 then c.prefix_c1 else (if m.ae = 2 then c.prefix_c2 else c.prefix_c3))).drop r6.1.1.toNat), r7.1.1, ())).bind fun r8 => (if (m.ae != 0) = true then (if 0 ≤ m.ae ∧ m.ae < 4 then ((U r8.1.1).bind K1) else none) else ((U r8.1.1).bind K2)))) else none)) else none) else (if (m.ae != 0) = true then (if 0 ≤ m.ae ∧ m.ae < 4 then ((U 0).bind K1) else none) else ((U 0).bind K2))) else none) else (if (m.ae != 0) = true then (if 0 ≤ m.ae ∧ m.ae < 4 then ((U 0).bind K1) else none) else ((U 0).bind K2))) = r := by
  subst hr
  obtain ⟨hae, hpl, hbl, h16, hbs, hp16⟩ := h.pre
  have hpre : (if m.ae = 0 then c.prefix_c0 else (if m.ae = 1 then c.prefix_c1 else (if m.ae = 2 then c.prefix_c2 else c.prefix_c3))) = preC c m.ae := rfl
  rw [hpre]
  by_cases a0 : m.ae = 0
  · have e0 : preC c m.ae = [] := by unfold preC; rw [if_pos a0]; exact hc.1
    have l0 : leadC c m = 0 := by unfold leadC; rw [if_pos e0]
    rw [if_neg (by simp [a0]), if_neg (by simp [a0]), if_pos a0, l0]; rfl
  rw [if_neg a0]
  rw [if_pos (by simp [a0]), if_pos hae]
  by_cases hq : preC c m.ae = []
  · have l0 : leadC c m = 0 := by unfold leadC; rw [if_pos hq]
    rw [if_neg (by simp [hq]), if_pos (by simp [a0]), if_pos hae, l0]; rfl
  · have hl := preC_len hc hae hq
    have hsz : szA m.ae ≤ 16 ∧ baseA m.ae ≤ szA m.ae := by unfold szA baseA; refine ⟨?_, ?_⟩ <;> (split <;> (try split) <;> (try split) <;> omega)
    have l1 : leadC c m = leadN ((preC c m.ae).drop (baseA m.ae).toNat) (bytesP m) := by unfold leadC; rw [if_neg hq]
    rw [if_pos (by simpa using hq), if_pos hae, rbase_is hae, Option.bind_some]
    dsimp only
    rw [if_pos (by omega), rlbytes_is h, Option.bind_some]
    dsimp only
    rw [rlead_is (by simp; omega) (by omega), Option.bind_some]
    dsimp only
    rw [if_pos (by simp [a0]), if_pos hae, l1]
theorem setP_no {c : Ctx} {ae : Int} {a : Bs} (h : ae = 0) : setP c ae a = c := by unfold setP; rw [if_pos h]
theorem setP_yes {c : Ctx} {ae : Int} {a : Bs} (h : ae ≠ 0) : setP c ae a = ⟨(if ae = 0 then a else c.prefix_c0), (if ae = 1 then a else c.prefix_c1), (if ae = 2 then a else c.prefix_c2), (if ae = 3 then a else c.prefix_c3), c.next_c0, c.next_c1, c.id⟩ := by unfold setP; rw [if_neg h, if_neg h]
theorem rput_main {c : Ctx} {m : Msg} (hc : okC c) (g : GoodL m) : g_ref24_Put (c, m, ()) = some (((putL c m).1, (putL c m).2.1, (putL c m).2.2, ()), ()) := by
  rw [g_ref24_Put_eq, rlright_is g, Option.bind_some]
  unfold putL
  dsimp only
  cases hl : leanB m with
  | false => rw [ifnf, if_pos rfl]
  | true =>
  have hR := leanR_iff.1 hl
  rw [ifnt, if_neg (show ¬ (true = false) by simp)]
  refine ne_step (fun hk => ?_) (fun hk => ?_)
  · rw [rother_is g hR hk, Option.bind_some, if_pos hk]
  rw [if_neg (show ¬ (m.kind ≠ 11) from fun q => q hk)]
  have h : UpdR m := by
    cases hR with
    | field h => have := fieldB_kind (fieldR_iff.2 h); omega
    | route h => have := routeB_kind (routeR_iff.2 h); omega
    | upd h => exact h
    | opq h => have := h.kind; omega
  have hfs := fewS_of g.good
  have hle := leadC_le c m
  have hul := updT_len m (leadC c m)
  have hidl := idT_len m.id
  have hhl := hopT_len m.next
  have hU := rupd24_is (N := leadC c m) h hfs hle
  unfold headL knownL
  refine ne_step (fun hm => ?_) (fun hm => ?_)
  rotate_left
  · rw [if_neg (show ¬ (m.metric ≠ 65535 ∧ m.next = [] ∧ nextC c (famE m.ae) ≠ []) from fun q => q.1 hm), if_pos hm, if_pos hm]
    refine rtail24 (U := fun n => g_ref24_update (m, n, ())) hc h ?_
    show (if m.ae = 0 then (g_ref24_update (m, ((leadC c m : Nat) : Int), ())).bind _ else (g_ref24_update (m, ((leadC c m : Nat) : Int), ())).bind _) = _
    rw [hU]
    simp only [Option.bind_some]
    by_cases a0 : m.ae = 0
    · rw [if_pos a0, if_pos (maxB_of (by omega)), setP_no a0]
    · rw [if_neg a0, if_pos (maxB_of (by omega)), setP_yes a0]
  have hn := h.near hm
  have a0 : m.ae ≠ 0 := by omega
  obtain ⟨hf, hop⟩ := h.fam hm
  have hf2 : 0 ≤ famE m.ae ∧ famE m.ae < 2 := by omega
  have hnx : (if famE m.ae = 0 then c.next_c0 else c.next_c1) = nextC c (famE m.ae) := rfl
  have hop' : m.next ≠ [] → m.next.length = 4 ∨ m.next.length = 16 := fun q => by have := hop q; omega
  rw [rcfam_is, Option.bind_some]
  dsimp only
  rw [hnx, if_neg hm, if_neg hm]
  simp only [if_pos hf2]
  have hil : m.id.length ≤ 10000 := by omega
  by_cases hne : m.next = []
  · rw [if_pos (by simp [hne])]
    by_cases hq : nextC c (famE m.ae) = []
    · rw [if_neg (by simp [hq]), if_neg (show ¬ (m.metric ≠ 65535 ∧ m.next = [] ∧ nextC c (famE m.ae) ≠ []) from fun q => q.2.2 hq)]
      have e2 : m.next = nextC c (famE m.ae) := by rw [hne, hq]
      have eN : ∀ k : Ctx, nextC k (famE m.ae) = nextC c (famE m.ae) → setN k (famE m.ae) m.next = k := fun k hk => setN_same hf (by rw [hk]; exact e2)
      by_cases hi : m.id = c.id
      · rw [if_neg (by simp [hi]), if_neg (by simp [e2]), if_pos hi, if_pos e2, setId_same hi, eN c rfl]
        refine rtail24 (U := fun n => g_ref24_update (m, n, ())) hc h ?_
        rw [if_neg a0]
        show (g_ref24_update (m, ((leadC c m : Nat) : Int), ())).bind _ = _
        rw [hU]
        simp only [Option.bind_some]
        rw [if_pos (maxB_of (by first | omega | (simp; omega))), setP_yes a0]
        simp
      · rw [if_pos (by simp [hi]), if_neg hi, if_pos e2, rid_is hil, Option.bind_some]
        dsimp only
        rw [if_neg (by simp [e2]), eN (setId c m.id) rfl]
        refine rtail24 (U := fun n => g_ref24_update (m, n, ())) hc h ?_
        rw [if_neg a0]
        show (g_ref24_update (m, ((leadC c m : Nat) : Int), ())).bind _ = _
        rw [hU]
        simp only [Option.bind_some]
        rw [if_pos (maxB_of (by first | omega | (simp; omega))), setP_yes a0]
        simp [setN, setId]
    · rw [if_pos (by simp [hq]), if_pos ⟨hm, hne, hq⟩]
  · rw [if_neg (by simpa using hne), if_neg (show ¬ (m.metric ≠ 65535 ∧ m.next = [] ∧ nextC c (famE m.ae) ≠ []) from fun q => hne q.2.1)]
    by_cases hi : m.id = c.id
    · rw [if_neg (by simp [hi]), if_pos hi, setId_same hi]
      by_cases e2 : m.next = nextC c (famE m.ae)
      · rw [if_neg (by simp [e2]), if_pos e2, setN_same hf e2]
        refine rtail24 (U := fun n => g_ref24_update (m, n, ())) hc h ?_
        rw [if_neg a0]
        show (g_ref24_update (m, ((leadC c m : Nat) : Int), ())).bind _ = _
        rw [hU]
        simp only [Option.bind_some]
        rw [if_pos (maxB_of (by first | omega | (simp; omega))), setP_yes a0]
        simp
      · rw [if_pos (by simpa using e2), if_neg e2, rhop24_is (hop' hne), Option.bind_some]
        dsimp only
        rw [if_pos (maxB_of (by omega))]
        refine rtail24 (U := fun n => g_ref24_update (m, n, ())) hc h ?_
        rw [if_neg a0]
        show (g_ref24_update (m, ((leadC c m : Nat) : Int), ())).bind _ = _
        rw [hU]
        simp only [Option.bind_some]
        rw [if_pos (maxB_of (by first | omega | (simp; omega))), setP_yes a0]
        simp [setN, setId]
    · rw [if_pos (by simp [hi]), if_neg hi, rid_is hil, Option.bind_some]
      dsimp only
      by_cases e2 : m.next = nextC c (famE m.ae)
      · rw [if_neg (by simp [e2]), if_pos e2, setN_same hf (show m.next = nextC (setId c m.id) (famE m.ae) from e2)]
        refine rtail24 (U := fun n => g_ref24_update (m, n, ())) hc h ?_
        rw [if_neg a0]
        show (g_ref24_update (m, ((leadC c m : Nat) : Int), ())).bind _ = _
        rw [hU]
        simp only [Option.bind_some]
        rw [if_pos (maxB_of (by first | omega | (simp; omega))), setP_yes a0]
        simp [setN, setId]
      · rw [if_pos (by simpa using e2), if_neg e2, rhop24_is (hop' hne), Option.bind_some]
        dsimp only
        rw [if_pos (maxB_of (by omega))]
        refine rtail24 (U := fun n => g_ref24_update (m, n, ())) hc h ?_
        rw [if_neg a0]
        show (g_ref24_update (m, ((leadC c m : Nat) : Int), ())).bind _ = _
        rw [hU]
        simp only [Option.bind_some]
        rw [if_pos (maxB_of (by first | omega | (simp; omega))), setP_yes a0]
        simp [setN, setId]
theorem rplain_is {m : Msg} (g : GoodL m) : g_ref24_Plain (m, ()) = some (((plainL m).1, (plainL m).2, ()), ()) := by
  rw [g_ref24_Plain_eq, rlright_is g, Option.bind_some]
  unfold plainL
  dsimp only
  cases hl : leanB m with
  | false => rw [ifnf, if_pos rfl]
  | true =>
  have hR := leanR_iff.1 hl
  rw [ifnt, if_neg (show ¬ (true = false) by simp)]
  refine ne_step (fun hk => ?_) (fun hk => ?_)
  · rw [rother_is g hR hk, Option.bind_some, if_pos hk]
  rw [if_neg (show ¬ (m.kind ≠ 11) from fun q => q hk)]
  have h : UpdR m := by
    cases hR with
    | field h => have := fieldB_kind (fieldR_iff.2 h); omega
    | route h => have := routeB_kind (routeR_iff.2 h); omega
    | upd h => exact h
    | opq h => have := h.kind; omega
  have hfs := fewS_of g.good
  have hU : g_ref24_update (m, 0, ()) = some ((updT m 0, ()), ()) := rupd24_is (N := 0) h hfs (by omega)
  have hul := updT_len m 0
  have hidl := idT_len m.id
  have hhl := hopT_len m.next
  refine ne_step (fun hm => ?_) (fun hm => ?_)
  rotate_left
  · rw [if_pos hm, hU, Option.bind_some]
    dsimp only
    rw [if_pos (maxB_of (by omega))]
  have hn := h.near hm
  obtain ⟨hf, hop⟩ := h.fam hm
  rw [if_neg hm, rid_is (by omega), Option.bind_some]
  dsimp only
  by_cases hne : m.next = []
  · rw [if_neg (by simp [hne]), if_pos hne, hU, Option.bind_some]
    dsimp only
    rw [if_pos (maxB_of (by omega)), List.append_nil]
  · rw [if_pos (by simpa using hne), if_neg hne, rhop24_is (by have := hop hne; omega), Option.bind_some]
    dsimp only
    rw [if_pos (maxB_of (by omega)), hU, Option.bind_some]
    dsimp only
    rw [if_pos (maxB_of (by simp; omega))]
end Go.VP
