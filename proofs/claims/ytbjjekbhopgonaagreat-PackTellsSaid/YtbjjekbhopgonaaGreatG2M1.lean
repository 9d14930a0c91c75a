import Derived.Test.YtbjjekbhopgonaaGreatG2FQ12
import Derived.Test.YtbjjekbhopgonaaGreatG2FQ13
import Derived.Test.YtbjjekbhopgonaaGreatG2FQ14
import Derived.Test.YtbjjekbhopgonaaGreatG2FH
import Derived.Test.YtbjjekbhopgonaaGreatG2M0
import Derived.Test.YtbjjekbhopgonaaGreatG2FQ11
import Derived.Test.YtbjjekbhopgonaaGreatG2FQ4
import Derived.Test.YtbjjekbhopgonaaGreatG2FQ9
import Derived.Test.YtbjjekbhopgonaaGreatG2FQ3
import Derived.Test.YtbjjekbhopgonaaGreatG2FQ2
import Derived.Test.YtbjjekbhopgonaaGreatG2FQ15
import Derived.Test.YtbjjekbhopgonaaGreatG2FQ6
import Derived.Test.YtbjjekbhopgonaaGreatG2FQ0
import Derived.Test.YtbjjekbhopgonaaGreatG2FQ7
import Derived.Test.YtbjjekbhopgonaaGreatG2FQ8
import Derived.Test.YtbjjekbhopgonaaGreatG2FQ1
import Derived.Test.YtbjjekbhopgonaaGreatG2FQ5
import Derived.Test.YtbjjekbhopgonaaGreatG2FGood
set_option linter.unusedVariables false
set_option linter.unusedSimpArgs false
set_option maxRecDepth 100000
namespace Go.VP
open Go Go.VI
theorem rid_is {s : Bs} (hs : s.length ≤ 10000) : g_ref24_id (s, ()) = some ((idT s, ()), ()) := by
  rw [g_ref24_id_eq, if_pos (maxB_of (by omega)), rtput_is, Option.bind_some]; rfl
theorem hopD_link {a : Bs} (h : linkB a = true) : hopD a = 3 :: 0 :: a.drop 8 := by unfold hopD; rw [if_pos h]
theorem hopD_4 {a : Bs} (h : ¬ linkB a = true) (h4 : a.length = 4) : hopD a = 1 :: 0 :: a := by unfold hopD; rw [if_neg h, if_pos h4]
theorem hopD_16 {a : Bs} (h : ¬ linkB a = true) (h4 : ¬ a.length = 4) : hopD a = 2 :: 0 :: a := by unfold hopD; rw [if_neg h, if_neg h4]
theorem rhop24_is {a : Bs} (h : a.length = 4 ∨ a.length = 16) : g_ref24_hop (a, ()) = some ((hopT a, ()), ()) := by
  rw [g_ref24_hop_eq, if_pos (maxB_of (by omega)), rlink_is]
  unfold hopT
  simp only [Option.bind_some]
  by_cases hl : linkB a = true
  · have := (linkB_len hl).1
    rw [hopD_link hl, if_neg (by simp; omega), if_pos hl, if_pos (by omega), if_pos (maxB_of (by simp; omega)), rtput_is, Option.bind_some]; rfl
  · by_cases h4 : a.length = 4
    · rw [hopD_4 hl h4, if_pos (by simp; omega), if_pos (maxB_of (by omega)), if_neg hl, rtput_is, Option.bind_some]; rfl
    · rw [hopD_16 hl h4, if_neg (by simp; omega), if_neg hl, rtput_is, Option.bind_some]; rfl
theorem of2_is {n : Int} (h : 0 ≤ n ∧ n < 65536) : g_ref02_Of (n, 2, ()) = some ((be 2 n, ()), ()) := by
  have := rof_is (n := n) (k := 2) (has64.2 (by omega)) (by omega) (by omega)
  unfold oput at this
  rw [if_pos (fitsB2.2 h)] at this
  exact this
theorem rupd24_is {m : Msg} {N : Nat} (h : UpdR m) (hfs : FewS m.subs) (hN : N ≤ (bytesP m).length) : g_ref24_update (m, (N : Int), ()) = some ((updT m N, ()), ()) := by
  obtain ⟨hae, hpl, hbl, h16, hbs, hp16⟩ := h.pre
  have u1 : u8of (IntKind.wrap .u8 m.ae) = u8of m.ae := u8w hae.1
  have u2 : u8of (IntKind.wrap .u8 m.plen) = u8of m.plen := u8w hpl.1
  have u3 : u8of (IntKind.wrap .u8 (N : Int)) = u8of N := u8w (by omega)
  have b2 : ∀ x, (be 2 x).length = 2 := fun x => be_length 2 x
  have hsl := encS_small h.subs
  have hsp := rsput_is hfs (by have := hfs.1; have := (rightB_split h.subs).2; have := sub_len (l := m.subs); omega)
  rw [putS_r h.subs] at hsp
  rw [g_ref24_update_eq, u1, u2, u3, hsp, of2_is h.iv, of2_is h.sq, of2_is h.me, rlbytes_is h]
  unfold updT updD flagU
  simp only [Option.bind_some]
  refine bq_step (fun h0 => ?_) (fun h0 => ?_)
  · rw [if_pos (maxB_of (by simp [b2])), if_pos (maxB_of (by simp [b2])), if_pos (maxB_of (by simp [b2])), if_pos (by omega), Int.toNat_natCast, if_pos (maxB_of (by simp [b2]; omega)), if_pos (maxB_of (by simp [b2]; omega)), rtput_is, Option.bind_some, if_pos h0]
    simp only [List.append_assoc]; rfl
  · rw [if_pos (maxB_of (by simp [b2])), if_pos (maxB_of (by simp [b2])), if_pos (maxB_of (by simp [b2])), if_pos (by omega), Int.toNat_natCast, if_pos (maxB_of (by simp [b2]; omega)), if_pos (maxB_of (by simp [b2]; omega)), rtput_is, Option.bind_some, if_neg h0]
    simp only [List.append_assoc]; rfl
theorem updT_len (m : Msg) (n : Nat) : (updT m n).length ≤ 257 := tput_len _ _
theorem rtail24 {R : Type} {c : Ctx} {m : Msg} (hc : okC c) (h : UpdR m) {U : Int → Option ((Bs × Unit) × Unit)} {K1 K2 : ((Bs × Unit) × Unit) → Option R} {r : Option R}
    (hr : (if m.ae = 0 then (U ((leadC c m : Nat) : Int)).bind K2 else (U ((leadC c m : Nat) : Int)).bind K1) = r) :
    (if (m.ae != 0) = true then (if 0 ≤ m.ae ∧ m.ae < 4 then (if (!((if m.ae = 0 then c.prefix_c0 else (if m.ae = 1 then c.prefix_c1 else (if m.ae = 2 then c.prefix_c2 else c.prefix_c3))) == ([] : Bs))) = true then (if 0 ≤ m.ae ∧ m.ae < 4 then ((g_ref21_Base (m.ae, ())).bind fun r6 => (if 0 ≤ r6.1.1 ∧ r6.1.1 ≤ ((if m.ae = 0 then c.prefix_c0 else (if m.ae = 1 then c.prefix_c1 else (if m.ae = 2 then c.prefix_c2 else c.prefix_c3))).length : Int) then ((g_ref21_Bytes (m, ())).bind fun r7 => ((g_ref04_Lead (((if m.ae = 0 then c.prefix_c0 else (if m.ae = 1 then c.prefix_c1 else (if m.ae = 2 then c.prefix_c2 else c.prefix_c3))).drop r6.1.1.toNat), r7.1.1, ())).bind fun r8 => (if (m.ae != 0) = true then (if 0 ≤ m.ae ∧ m.ae < 4 then ((U r8.1.1).bind K1) else none) else ((U r8.1.1).bind K2)))) else none)) else none) else (if (m.ae != 0) = true then (if 0 ≤ m.ae ∧ m.ae < 4 then ((U 0).bind K1) else none) else ((U 0).bind K2))) else none) else (if (m.ae != 0) = true then (if 0 ≤ m.ae ∧ m.ae < 4 then ((U 0).bind K1) else none) else ((U 0).bind K2))) = r := by
  subst hr
  obtain ⟨hae, hpl, hbl, h16, hbs, hp16⟩ := h.pre
  have hpre : (if m.ae = 0 then c.prefix_c0 else (if m.ae = 1 then c.prefix_c1 else (if m.ae = 2 then c.prefix_c2 else c.prefix_c3))) = preC c m.ae := rfl
  rw [hpre]
  by_cases a0 : m.ae = 0
  · have e0 : preC c m.ae = [] := by unfold preC; rw [if_pos a0]; exact hc.1
    have l0 : leadC c m = 0 := by unfold leadC; rw [if_pos e0]
    rw [if_neg (by simp [a0]), if_neg (by simp [a0]), if_pos a0, l0]; rfl
  rw [if_neg a0]
  rw [if_pos (by simp [a0]), if_pos hae]
  by_cases hq : preC c m.ae = []
  · have l0 : leadC c m = 0 := by unfold leadC; rw [if_pos hq]
    rw [if_neg (by simp [hq]), if_pos (by simp [a0]), if_pos hae, l0]; rfl
  · have hl := preC_len hc hae hq
    have hsz : szA m.ae ≤ 16 ∧ baseA m.ae ≤ szA m.ae := by unfold szA baseA; refine ⟨?_, ?_⟩ <;> (split <;> (try split) <;> (try split) <;> omega)
    have l1 : leadC c m = leadN ((preC c m.ae).drop (baseA m.ae).toNat) (bytesP m) := by unfold leadC; rw [if_neg hq]
    rw [if_pos (by simpa using hq), if_pos hae, rbase_is hae, Option.bind_some]
    dsimp only
    rw [if_pos (by omega), rlbytes_is h, Option.bind_some]
    dsimp only
    rw [rlead_is (by simp; omega) (by omega), Option.bind_some]
    dsimp only
    rw [if_pos (by simp [a0]), if_pos hae, l1]
theorem setP_no {c : Ctx} {ae : Int} {a : Bs} (h : ae = 0) : setP c ae a = c := by unfold setP; rw [if_pos h]
theorem setP_yes {c : Ctx} {ae : Int} {a : Bs} (h : ae ≠ 0) : setP c ae a = ⟨(if ae = 0 then a else c.prefix_c0), (if ae = 1 then a else c.prefix_c1), (if ae = 2 then a else c.prefix_c2), (if ae = 3 then a else c.prefix_c3), c.next_c0, c.next_c1, c.id⟩ := by unfold setP; rw [if_neg h, if_neg h]
theorem rput_main {c : Ctx} {m : Msg} (hc : okC c) (g : GoodL m) : g_ref24_Put (c, m, ()) = some (((putL c m).1, (putL c m).2.1, (putL c m).2.2, ()), ()) := by
  rw [g_ref24_Put_eq, rlright_is g, Option.bind_some]
  unfold putL
  dsimp only
  cases hl : leanB m with
  | false => rw [ifnf, if_pos rfl]
  | true =>
  have hR := leanR_iff.1 hl
  rw [ifnt, if_neg (show ¬ (true = false) by simp)]
  refine ne_step (fun hk => ?_) (fun hk => ?_)
  · rw [rother_is g hR hk, Option.bind_some, if_pos hk]
  rw [if_neg (show ¬ (m.kind ≠ 11) from fun q => q hk)]
  have h : UpdR m := by
    cases hR with
    | field h => have := fieldB_kind (fieldR_iff.2 h); omega
    | route h => have := routeB_kind (routeR_iff.2 h); omega
    | upd h => exact h
    | opq h => have := h.kind; omega
  have hfs := fewS_of g.good
  have hle := leadC_le c m
  have hul := updT_len m (leadC c m)
  have hidl := idT_len m.id
  have hhl := hopT_len m.next
  have hU := rupd24_is (N := leadC c m) h hfs hle
  unfold headL knownL
  refine ne_step (fun hm => ?_) (fun hm => ?_)
  rotate_left
  · rw [if_neg (show ¬ (m.metric ≠ 65535 ∧ m.next = [] ∧ nextC c (famE m.ae) ≠ []) from fun q => q.1 hm), if_pos hm, if_pos hm]
    refine rtail24 (U := fun n => g_ref24_update (m, n, ())) hc h ?_
    show (if m.ae = 0 then (g_ref24_update (m, ((leadC c m : Nat) : Int), ())).bind _ else (g_ref24_update (m, ((leadC c m : Nat) : Int), ())).bind _) = _
    rw [hU]
    simp only [Option.bind_some]
    by_cases a0 : m.ae = 0
    · rw [if_pos a0, if_pos (maxB_of (by omega)), setP_no a0]
    · rw [if_neg a0, if_pos (maxB_of (by omega)), setP_yes a0]
  have hn := h.near hm
  have a0 : m.ae ≠ 0 := by omega
  obtain ⟨hf, hop⟩ := h.fam hm
  have hf2 : 0 ≤ famE m.ae ∧ famE m.ae < 2 := by omega
  have hnx : (if famE m.ae = 0 then c.next_c0 else c.next_c1) = nextC c (famE m.ae) := rfl
  have hop' : m.next ≠ [] → m.next.length = 4 ∨ m.next.length = 16 := fun q => by have := hop q; omega
  rw [rcfam_is, Option.bind_some]
  dsimp only
  rw [hnx, if_neg hm, if_neg hm]
  simp only [if_pos hf2]
  have hil : m.id.length ≤ 10000 := by omega
  by_cases hne : m.next = []
  · rw [if_pos (by simp [hne])]
    by_cases hq : nextC c (famE m.ae) = []
    · rw [if_neg (by simp [hq]), if_neg (show ¬ (m.metric ≠ 65535 ∧ m.next = [] ∧ nextC c (famE m.ae) ≠ []) from fun q => q.2.2 hq)]
      have e2 : m.next = nextC c (famE m.ae) := by rw [hne, hq]
      have eN : ∀ k : Ctx, nextC k (famE m.ae) = nextC c (famE m.ae) → setN k (famE m.ae) m.next = k := fun k hk => setN_same hf (by rw [hk]; exact e2)
      by_cases hi : m.id = c.id
      · rw [if_neg (by simp [hi]), if_neg (by simp [e2]), if_pos hi, if_pos e2, setId_same hi, eN c rfl]
        refine rtail24 (U := fun n => g_ref24_update (m, n, ())) hc h ?_
        rw [if_neg a0]
        show (g_ref24_update (m, ((leadC c m : Nat) : Int), ())).bind _ = _
        rw [hU]
        simp only [Option.bind_some]
        rw [if_pos (maxB_of (by first | omega | (simp; omega))), setP_yes a0]
        simp
      · rw [if_pos (by simp [hi]), if_neg hi, if_pos e2, rid_is hil, Option.bind_some]
        dsimp only
        rw [if_neg (by simp [e2]), eN (setId c m.id) rfl]
        refine rtail24 (U := fun n => g_ref24_update (m, n, ())) hc h ?_
        rw [if_neg a0]
        show (g_ref24_update (m, ((leadC c m : Nat) : Int), ())).bind _ = _
        rw [hU]
        simp only [Option.bind_some]
        rw [if_pos (maxB_of (by first | omega | (simp; omega))), setP_yes a0]
        simp [setN, setId]
    · rw [if_pos (by simp [hq]), if_pos ⟨hm, hne, hq⟩]
  · rw [if_neg (by simpa using hne), if_neg (show ¬ (m.metric ≠ 65535 ∧ m.next = [] ∧ nextC c (famE m.ae) ≠ []) from fun q => hne q.2.1)]
    by_cases hi : m.id = c.id
    · rw [if_neg (by simp [hi]), if_pos hi, setId_same hi]
      by_cases e2 : m.next = nextC c (famE m.ae)
      · rw [if_neg (by simp [e2]), if_pos e2, setN_same hf e2]
        refine rtail24 (U := fun n => g_ref24_update (m, n, ())) hc h ?_
        rw [if_neg a0]
        show (g_ref24_update (m, ((leadC c m : Nat) : Int), ())).bind _ = _
        rw [hU]
        simp only [Option.bind_some]
        rw [if_pos (maxB_of (by first | omega | (simp; omega))), setP_yes a0]
        simp
      · rw [if_pos (by simpa using e2), if_neg e2, rhop24_is (hop' hne), Option.bind_some]
        dsimp only
        rw [if_pos (maxB_of (by omega))]
        refine rtail24 (U := fun n => g_ref24_update (m, n, ())) hc h ?_
        rw [if_neg a0]
        show (g_ref24_update (m, ((leadC c m : Nat) : Int), ())).bind _ = _
        rw [hU]
        simp only [Option.bind_some]
        rw [if_pos (maxB_of (by first | omega | (simp; omega))), setP_yes a0]
        simp [setN, setId]
    · rw [if_pos (by simp [hi]), if_neg hi, rid_is hil, Option.bind_some]
      dsimp only
      by_cases e2 : m.next = nextC c (famE m.ae)
      · rw [if_neg (by simp [e2]), if_pos e2, setN_same hf (show m.next = nextC (setId c m.id) (famE m.ae) from e2)]
        refine rtail24 (U := fun n => g_ref24_update (m, n, ())) hc h ?_
        rw [if_neg a0]
        show (g_ref24_update (m, ((leadC c m : Nat) : Int), ())).bind _ = _
        rw [hU]
        simp only [Option.bind_some]
        rw [if_pos (maxB_of (by first | omega | (simp; omega))), setP_yes a0]
        simp [setN, setId]
      · rw [if_pos (by simpa using e2), if_neg e2, rhop24_is (hop' hne), Option.bind_some]
        dsimp only
        rw [if_pos (maxB_of (by omega))]
        refine rtail24 (U := fun n => g_ref24_update (m, n, ())) hc h ?_
        rw [if_neg a0]
        show (g_ref24_update (m, ((leadC c m : Nat) : Int), ())).bind _ = _
        rw [hU]
        simp only [Option.bind_some]
        rw [if_pos (maxB_of (by first | omega | (simp; omega))), setP_yes a0]
        simp [setN, setId]
end Go.VP
set_option linter.unusedVariables false
set_option linter.unusedSimpArgs false
set_option maxRecDepth 100000
namespace Go.VP
open Go Go.VI
theorem OpqR.eq {m : Msg} (h : OpqR m) : opaqueM m.type_ m.data = m := by
  have hx : bareOf m = some ⟨m.kind, 0, 0, [], 0, 0, [], 0, 0, [], 0, [], 0, 0, 0, 0, 0, 0, 0, [], [], [], m.type_, m.data, []⟩ := by
    have hk := h.kind
    unfold bareOf; rw [if_neg (by omega), if_neg (by omega), if_neg (by omega), if_neg (by omega), if_neg (by omega), if_neg (by omega), if_neg (by omega), if_neg (by omega), if_neg (by omega), if_neg (by omega), if_neg (by omega), if_neg (by omega), if_neg (by omega), if_pos hk]
  have hb := h.bare
  rw [bareB, hx] at hb
  have := eqB_true.1 hb
  rw [h.kind] at this
  exact this
theorem LeanR.upd_of {m : Msg} (h : LeanR m) (hk : m.kind = 11) : UpdR m := by
  cases h with
  | field h => have := fieldB_kind (fieldR_iff.2 h); omega
  | route h => have := routeB_kind (routeR_iff.2 h); omega
  | upd h => exact h
  | opq h => have := h.kind; omega
theorem putL_ok {c : Ctx} {m : Msg} (hc : okC c) (h : LeanR m) : okC (putL c m).2.1 := by
  unfold putL
  split
  · exact hc
  split
  · exact hc
  split
  · exact hc
  rename_i hk hx
  have hu := h.upd_of (by simpa using hk)
  have hk2 : okC (knownL c m) := by
    unfold knownL
    split
    · exact hc
    · rename_i hm
      obtain ⟨hf, hop⟩ := hu.fam hm
      have hc1 := okC_setId (i := m.id) hc (hu.near hm).2.1
      by_cases hne : m.next = []
      · have e : m.next = nextC (setId c m.id) (famE m.ae) := by
          rw [hne]
          show [] = nextC c (famE m.ae)
          cases hq : nextC c (famE m.ae) with
          | nil => rfl
          | cons a b => exact absurd ⟨hm, hne, by rw [hq]; simp⟩ hx
        rw [setN_same hf e]; exact hc1
      · exact okC_setN hc1 (hop hne)
  obtain ⟨a, b, c', d, e⟩ := inB_iff.1 hu.inn
  obtain ⟨h0, h1, h2, h3, h4, h5, h6⟩ := hk2
  show okC (setP (knownL c m) m.ae m.prefix_)
  unfold setP
  split
  · exact ⟨h0, h1, h2, h3, h4, h5, h6⟩
  · refine ⟨h0, ?_, ?_, ?_, h4, h5, h6⟩
    · dsimp only
      split
      · rename_i q; rw [q] at b; right; have : szA 1 = 4 := rfl; omega
      · exact h1
    · dsimp only
      split
      · rename_i q; rw [q] at b; right; have : szA 2 = 16 := rfl; omega
      · exact h2
    · dsimp only
      split
      · rename_i q; exact .inr (e q)
      · exact h3
end Go.VP
set_option linter.unusedVariables false
set_option linter.unusedSimpArgs false
set_option maxRecDepth 100000
namespace Go.VP
open Go Go.VI
noncomputable def goO : Ctx → List Msg → Nat → Bs → Bs × Int × Int
  | _, [], _, b => ((wrapF b).1, 0, 0)
  | c, m :: r, i, b => if (putL c m).2.2 ≠ 0 then ([], i, (putL c m).2.2) else if 65531 < ((b ++ (putL c m).1).length : Int) then ([], i, 10) else goO (putL c m).2.1 r (i + 1) (b ++ (putL c m).1)
noncomputable def badL : List Msg → Nat → Option Nat
  | [], _ => none
  | m :: r, i => if leanB m = false then some i else badL r (i + 1)
noncomputable def encO (l : List Msg) : Bs × Int × Int := match badL l 0 with
  | some i => ([], i, 1)
  | none => goO c0 l 0 []
end Go.VP
set_option linter.unusedVariables false
set_option linter.unusedSimpArgs false
set_option maxRecDepth 100000
namespace Go.VP
open Go Go.VI
theorem putL_small (c : Ctx) (m : Msg) : (putL c m).1.length ≤ 800 := by
  have h1 := idT_len m.id; have h2 := hopT_len m.next; have h3 : (updT m (leadC c m)).length ≤ 257 := tput_len _ _
  have h4 : (otherF m).length ≤ 257 := by
    unfold otherF routePut fieldPut
    split
    · split
      · exact tput_len _ _
      · simp
    split
    · exact tput_len _ _
    split
    · exact tput_len _ _
    · simp
  have h5 : (headL c m).length ≤ 514 := by
    unfold headL
    split
    · simp
    · have a1 : (if m.id = c.id then [] else idT m.id).length ≤ 257 := by
        split
        · simp
        · exact h1
      have a2 : (if m.next = nextC c (famE m.ae) then [] else hopT m.next).length ≤ 257 := by
        split
        · simp
        · exact h2
      rw [List.length_append]; omega
  unfold putL
  split
  · simp
  split
  · dsimp only; omega
  split
  · simp
  · dsimp only; rw [List.length_append]; omega
theorem oenc1_loop {l : List Msg} {n : Nat} (hl : l.length ≤ 100000) (hg : ∀ m ∈ l, GoodL m) (hb : ∀ m ∈ l, leanB m = true) : ∀ (d k i : Nat) (c : Ctx) (b : Bs), i + d = l.length → d < k → okC c → b.length ≤ 65531 →
    L_outlet_Encode_1 n k l b c.prefix_c0 c.prefix_c1 c.prefix_c2 c.prefix_c3 c.next_c0 c.next_c1 c.id i = some (trip (goO c (l.drop i) i b), ()) := by
  intro d
  induction d with
  | zero =>
    intro k i c b hd hk hc hbl
    obtain ⟨k, rfl⟩ : ∃ q, k = q + 1 := ⟨k - 1, by omega⟩
    rw [L_outlet_Encode_1_eq, ifn (by omega), wrap_is (by omega), List.drop_eq_nil_of_le (by omega)]; rfl
  | succ d ih =>
    intro k i c b hd hk hc hbl
    obtain ⟨k, rfl⟩ : ∃ q, k = q + 1 := ⟨k - 1, by omega⟩
    have hi : i < l.length := by omega
    have hp : 0 ≤ (i : Int) := by omega
    have hm := hb _ (List.getElem_mem hi)
    have hgm := hg _ (List.getElem_mem hi)
    have ih' := fun c b => ih k (i + 1) c b (by omega) (by omega)
    rw [show ((i + 1 : Nat) : Int) = (i : Int) + 1 by omega] at ih'
    rw [L_outlet_Encode_1_eq, ifd (by omega), if_pos hp, Int.toNat_natCast, bind_at hi, List.drop_eq_getElem_cons hi, goO]
    generalize l[i] = m at *
    have hlen := putL_small c m
    rw [show (S_api_Ctx.mk c.prefix_c0 c.prefix_c1 c.prefix_c2 c.prefix_c3 c.next_c0 c.next_c1 c.id) = c from rfl, lput_main hc hgm, Option.bind_some]
    dsimp only
    refine ne_step (fun he => by rw [if_pos he]) (fun he => ?_)
    rw [if_neg (show ¬ (putL c m).2.2 ≠ 0 from fun q => q he), if_pos (roomB_of (by omega))]
    refine dq_step' (fun q => by rw [if_pos q]) (fun q => ?_)
    rw [if_neg q, w64 (by omega) (by omega)]
    exact ih' _ _ (putL_ok hc (leanR_iff.1 hm)) (by omega)
theorem oenc0_loop {l : List Msg} {n : Nat} (hn : 1000000 ≤ n) (hl : l.length ≤ 100000) (hg : ∀ m ∈ l, GoodL m) : ∀ (d k i : Nat), i + d = l.length → d < k → (∀ m ∈ l.take i, leanB m = true) →
    L_outlet_Encode_0 n k l i = some (trip (match badL (l.drop i) i with | some j => ([], (j : Int), 1) | none => goO c0 l 0 []), ()) := by
  intro d
  induction d with
  | zero =>
    intro k i hd hk hq
    obtain ⟨k, rfl⟩ : ∃ q, k = q + 1 := ⟨k - 1, by omega⟩
    rw [List.take_of_length_le (by omega)] at hq
    have := oenc1_loop (n := n) hl hg hq l.length n 0 c0 [] (by omega) (by omega) okC_c0 (by simp)
    rw [L_outlet_Encode_0_eq, ifn (by omega), List.drop_eq_nil_of_le (by omega)]
    exact this
  | succ d ih =>
    intro k i hd hk hq
    obtain ⟨k, rfl⟩ : ∃ q, k = q + 1 := ⟨k - 1, by omega⟩
    have hi : i < l.length := by omega
    have hp : 0 ≤ (i : Int) := by omega
    have ih' := ih k (i + 1) (by omega) (by omega)
    rw [show ((i + 1 : Nat) : Int) = (i : Int) + 1 by omega] at ih'
    have hgm := hg _ (List.getElem_mem hi)
    rw [L_outlet_Encode_0_eq, ifd (by omega), if_pos hp, Int.toNat_natCast, bind_at hi, lright_is hgm, Option.bind_some, List.drop_eq_getElem_cons hi, badL]
    dsimp only
    cases hm : leanB l[i] with
    | false => rw [ifnf, if_pos rfl]
    | true =>
      rw [ifnt, if_neg (show ¬ (true = false) by simp), w64 (by omega) (by omega)]
      refine ih' (fun x hx => ?_)
      rw [List.take_succ_eq_append_getElem hi, List.mem_append, List.mem_singleton] at hx
      rcases hx with hx | rfl
      · exact hq x hx
      · exact hm
theorem oenc_is {l : List Msg} (hl : l.length ≤ 100000) (hg : ∀ m ∈ l, GoodL m) : g_outlet_Encode (l, ()) = some (trip (encO l), ()) := by
  show h_outlet_Encode fuel (l, ()) = _
  rw [h_outlet_Encode_eq]
  exact oenc0_loop (n := fuel) (Nat.le_of_lt (fuel_ge (by omega))) hl hg l.length fuel 0 (by omega) (fuel_ge (by omega)) (fun m hm => by simp at hm)
theorem roenc1_loop {l : List Msg} {n : Nat} (hl : l.length ≤ 100000) (hg : ∀ m ∈ l, GoodL m) (hb : ∀ m ∈ l, leanB m = true) : ∀ (d k i : Nat) (c : Ctx) (b : Bs), i + d = l.length → d < k → okC c → b.length ≤ 65531 →
    L_ref25_Encode_1 n k l b c.prefix_c0 c.prefix_c1 c.prefix_c2 c.prefix_c3 c.next_c0 c.next_c1 c.id i = some (trip (goO c (l.drop i) i b), ()) := by
  intro d
  induction d with
  | zero =>
    intro k i c b hd hk hc hbl
    obtain ⟨k, rfl⟩ : ∃ q, k = q + 1 := ⟨k - 1, by omega⟩
    rw [L_ref25_Encode_1_eq, ifn (by omega), rwrap_is (by omega), List.drop_eq_nil_of_le (by omega)]; rfl
  | succ d ih =>
    intro k i c b hd hk hc hbl
    obtain ⟨k, rfl⟩ : ∃ q, k = q + 1 := ⟨k - 1, by omega⟩
    have hi : i < l.length := by omega
    have hp : 0 ≤ (i : Int) := by omega
    have hm := hb _ (List.getElem_mem hi)
    have hgm := hg _ (List.getElem_mem hi)
    have ih' := fun c b => ih k (i + 1) c b (by omega) (by omega)
    rw [show ((i + 1 : Nat) : Int) = (i : Int) + 1 by omega] at ih'
    rw [L_ref25_Encode_1_eq, ifd (by omega), if_pos hp, Int.toNat_natCast, bind_at hi, List.drop_eq_getElem_cons hi, goO]
    generalize l[i] = m at *
    have hlen := putL_small c m
    rw [show (S_api_Ctx.mk c.prefix_c0 c.prefix_c1 c.prefix_c2 c.prefix_c3 c.next_c0 c.next_c1 c.id) = c from rfl, rput_main hc hgm, Option.bind_some]
    dsimp only
    refine ne_step (fun he => by rw [if_pos he]) (fun he => ?_)
    rw [if_neg (show ¬ (putL c m).2.2 ≠ 0 from fun q => q he), if_pos (maxB_of (by omega))]
    refine dq_step' (fun q => by rw [if_pos q]) (fun q => ?_)
    rw [if_neg q, w64 (by omega) (by omega)]
    exact ih' _ _ (putL_ok hc (leanR_iff.1 hm)) (by omega)
theorem roenc0_loop {l : List Msg} {n : Nat} (hn : 1000000 ≤ n) (hl : l.length ≤ 100000) (hg : ∀ m ∈ l, GoodL m) : ∀ (d k i : Nat), i + d = l.length → d < k → (∀ m ∈ l.take i, leanB m = true) →
    L_ref25_Encode_0 n k l i = some (trip (match badL (l.drop i) i with | some j => ([], (j : Int), 1) | none => goO c0 l 0 []), ()) := by
  intro d
  induction d with
  | zero =>
    intro k i hd hk hq
    obtain ⟨k, rfl⟩ : ∃ q, k = q + 1 := ⟨k - 1, by omega⟩
    rw [List.take_of_length_le (by omega)] at hq
    have := roenc1_loop (n := n) hl hg hq l.length n 0 c0 [] (by omega) (by omega) okC_c0 (by simp)
    rw [L_ref25_Encode_0_eq, ifn (by omega), List.drop_eq_nil_of_le (by omega)]
    exact this
  | succ d ih =>
    intro k i hd hk hq
    obtain ⟨k, rfl⟩ : ∃ q, k = q + 1 := ⟨k - 1, by omega⟩
    have hi : i < l.length := by omega
    have hp : 0 ≤ (i : Int) := by omega
    have ih' := ih k (i + 1) (by omega) (by omega)
    rw [show ((i + 1 : Nat) : Int) = (i : Int) + 1 by omega] at ih'
    have hgm := hg _ (List.getElem_mem hi)
    rw [L_ref25_Encode_0_eq, ifd (by omega), if_pos hp, Int.toNat_natCast, bind_at hi, rlright_is hgm, Option.bind_some, List.drop_eq_getElem_cons hi, badL]
    dsimp only
    cases hm : leanB l[i] with
    | false => rw [ifnf, if_pos rfl]
    | true =>
      rw [ifnt, if_neg (show ¬ (true = false) by simp), w64 (by omega) (by omega)]
      refine ih' (fun x hx => ?_)
      rw [List.take_succ_eq_append_getElem hi, List.mem_append, List.mem_singleton] at hx
      rcases hx with hx | rfl
      · exact hq x hx
      · exact hm
theorem roenc_is {l : List Msg} (hl : l.length ≤ 100000) (hg : ∀ m ∈ l, GoodL m) : g_ref25_Encode (l, ()) = some (trip (encO l), ()) := by
  show h_ref25_Encode fuel (l, ()) = _
  rw [h_ref25_Encode_eq]
  exact roenc0_loop (n := fuel) (Nat.le_of_lt (fuel_ge (by omega))) hl hg l.length fuel 0 (by omega) (fuel_ge (by omega)) (fun m hm => by simp at hm)
end Go.VP
set_option linter.unusedVariables false
set_option linter.unusedSimpArgs false
set_option maxRecDepth 100000
namespace Go.VP
open Go Go.VI
def zeroB (s : Bs) : Bool := s.all (· == 0)
theorem zero_loop {n : Nat} {s : Bs} (hs : s.length ≤ 1000000000) : ∀ (d m i : Nat), i + d = s.length → d < m → L_octet_Zero_0 n m s i = some (((s.drop i).all (· == 0), ()), ()) := by
  intro d
  induction d with
  | zero =>
    intro m i hd hm
    obtain ⟨m, rfl⟩ : ∃ k, m = k + 1 := ⟨m - 1, by omega⟩
    rw [L_octet_Zero_0_eq, ifn (by omega), List.drop_eq_nil_of_le (by omega)]; rfl
  | succ d ih =>
    intro m i hd hm
    obtain ⟨m, rfl⟩ : ∃ k, m = k + 1 := ⟨m - 1, by omega⟩
    have ha : i < s.length := by omega
    have := ih m (i + 1) (by omega) (by omega)
    rw [show ((i + 1 : Nat) : Int) = (i : Int) + 1 by omega] at this
    rw [L_octet_Zero_0_eq, ifd (by omega), if_pos (by omega), Int.toNat_natCast, bind_at ha, w64 (by omega) (by omega), this, List.drop_eq_getElem_cons ha, List.all_cons]
    refine ne_step (fun h => ?_) (fun h => ?_)
    · have : (s[i] == 0) = false := by
        rw [beq_eq_false_iff_ne]; intro e; rw [e] at h; exact h rfl
      rw [this]; rfl
    · have : s[i] = 0 := u8_eq h
      rw [this]; simp
theorem zero_is {s : Bs} (hs : s.length ≤ 1000000000) : g_octet_Zero (s, ()) = some ((zeroB s, ()), ()) := by
  show h_octet_Zero fuel (s, ()) = _
  rw [h_octet_Zero_eq]
  exact zero_loop hs s.length fuel 0 (by omega) (fuel_ge (by omega))
abbrev z4 : Bs := [0, 0, 0, 0]
theorem zero4 {s : Bs} (h : s.length = 4) : zeroB s = true ↔ s = z4 := by
  match s, h with
  | [a, b, c, d], _ => simp [zeroB]
theorem zero8 {s t : Bs} (h : s.length = 4) (h' : t.length = 4) : zeroB (s ++ t) = true ↔ s = z4 ∧ t = z4 := by
  rw [← zero4 h, ← zero4 h']; simp [zeroB, List.all_append]
theorem nought_is : g_ref10_nought () = some ((z4, ()), ()) := g_ref10_nought_eq
def maskF (n : Int) : Bs := keepF [255, 255, 255, 255] n
theorem maskF_key : ∀ k : Fin 33, ([(u8of (IntKind.wrap .u8 (ishr .u32 (ishl .u32 4294967295 (IntKind.wrap .u64 (IntKind.wrap .i64 (32 - (k.val : Int))))) 24))), (u8of (IntKind.wrap .u8 (ishr .u32 (ishl .u32 4294967295 (IntKind.wrap .u64 (IntKind.wrap .i64 (32 - (k.val : Int))))) 16))), (u8of (IntKind.wrap .u8 (ishr .u32 (ishl .u32 4294967295 (IntKind.wrap .u64 (IntKind.wrap .i64 (32 - (k.val : Int))))) 8))), (u8of (IntKind.wrap .u8 (ishl .u32 4294967295 (IntKind.wrap .u64 (IntKind.wrap .i64 (32 - (k.val : Int)))))))] : Bs) = maskF k.val := by decide +kernel
theorem maskF_length (n : Int) : (maskF n).length = 4 := by unfold maskF; rw [keepF_length]; rfl
theorem fin33 {n : Int} (h : 0 ≤ n) (h' : n ≤ 32) : ∃ k : Fin 33, n = (k.val : Int) := ⟨⟨n.toNat, by omega⟩, by simp; omega⟩
theorem maskOf_is {n : Int} (h : 0 ≤ n) (h' : n ≤ 32) : g_mask_Of (n, ()) = some ((maskF n, true, ()), ()) := by
  obtain ⟨k, rfl⟩ := fin33 h h'
  rw [g_mask_Of_eq, ifn (by omega), ifn (by omega), if_pos (by rw [w64 (by omega) (by omega), wu64 (by omega) (by omega)]; omega), maskF_key k]
theorem rmaskOf_is {n : Int} (h : 0 ≤ n) (h' : n ≤ 32) : g_ref05_Of (n, ()) = some ((maskF n, true, ()), ()) := by
  rw [g_ref05_Of_eq, ifn (by omega), ifn (by omega), rkeep_is (by simp), Option.bind_some]; rfl
end Go.VP
set_option linter.unusedVariables false
set_option linter.unusedSimpArgs false
set_option maxRecDepth 100000
namespace Go.VP
open Go Go.VI
def okR (m : Msg) : Prop := m.kind = 1 ∧ bareB m = true ∧ (m.cmd = 1 ∨ m.cmd = 2) ∧ (m.ver = 1 ∨ m.ver = 2) ∧ m.prefix_.length = 4 ∧ m.next.length = 4 ∧ (m.auth = [] ∨ (m.ver = 2 ∧ m.auth.length = 18)) ∧
  ((m.family = 0 ∧ m.cmd = 1 ∧ m.tag = 0 ∧ m.plen = 0 ∧ m.prefix_ = z4 ∧ m.next = z4 ∧ m.metric = 16) ∨
   (m.family = 2 ∧ 1 ≤ m.metric ∧ m.metric ≤ 16 ∧
     ((m.ver = 1 ∧ m.tag = 0 ∧ m.plen = 32 ∧ m.next = z4) ∨ (m.ver = 2 ∧ 0 ≤ m.tag ∧ m.tag ≤ 65535 ∧ 0 ≤ m.plen ∧ m.plen ≤ 32 ∧ cleanB m.prefix_ m.plen = true))))
open Classical in
noncomputable def rightR (m : Msg) : Bool := decide (okR m)
theorem rightR_true {m : Msg} : rightR m = true ↔ okR m := by unfold rightR; simp
structure RM (m : Msg) : Prop where
  tag : IntKind.has .i64 m.tag
  plen : IntKind.has .i64 m.plen
  list : m.list.length ≤ 1000000000
  subs : m.subs.length ≤ 1000000000
theorem dq_step {R : Type} {p : Prop} [Decidable p] {t f r : R} (h : p → t = r) (h' : ¬ p → f = r) : (if decide p = true then t else f) = r := by
  by_cases hp : p
  · rw [ifd hp]; exact h hp
  · rw [ifn hp]; exact h' hp
theorem nb_step {R : Type} {b : Bool} {t f r : R} (h : b = false → t = r) (h' : b = true → f = r) : (if (!b) = true then t else f) = r := by
  cases b
  · exact h rfl
  · exact h' rfl
theorem be_stepR {R : Type} {x y : Bs} {f t r : R} (heq : x = y → t = r) (hne : x ≠ y → f = r) : (if (x == y) = true then t else f) = r := by
  by_cases h : x = y
  · rw [if_pos (by simp [h])]; exact heq h
  · rw [if_neg (by simpa using h)]; exact hne h
theorem two_step {R : Type} {x a b : Int} {F V r : R} (h1 : ¬ (x = a ∨ x = b) → F = r) (h2 : (x = a ∨ x = b) → V = r) : (if (x != a) = true then (if (x != b) = true then F else V) else V) = r :=
  ne_step (fun ha => ne_step (fun hb => h1 (by omega)) (fun hb => h2 (.inr hb))) (fun ha => h2 (.inl ha))
theorem au_step {R : Type} {s : Bs} {v : Int} {F T r : R} (h1 : ¬ (s = [] ∨ (v ≠ 1 ∧ s.length = 18)) → F = r) (h2 : (s = [] ∨ (v ≠ 1 ∧ s.length = 18)) → T = r) : (if (!(s == ([] : Bs))) = true then (if (v == 1) = true then F else (if ((s.length : Int) != 18) = true then F else T)) else T) = r :=
  nq_step (fun ha => bq_step (fun hb => h1 (by grind)) (fun hb => ne_step (fun hc => h1 (by grind)) (fun hc => h2 (by grind)))) (fun ha => h2 (.inl ha))
theorem rau_step {R : Type} {s : Bs} {v : Int} {F T r : R} (h1 : ¬ (s = [] ∨ (v = 2 ∧ s.length = 18)) → F = r) (h2 : (s = [] ∨ (v = 2 ∧ s.length = 18)) → T = r) : (if (!(s == ([] : Bs))) = true then (if (v != 2) = true then F else (if ((s.length : Int) != 18) = true then F else T)) else T) = r :=
  nq_step (fun ha => ne_step (fun hb => h1 (by grind)) (fun hb => ne_step (fun hc => h1 (by grind)) (fun hc => h2 (by grind)))) (fun ha => h2 (.inl ha))
theorem pright4 {a : Bs} {n : Int} (h : a.length = 4) (hn : IntKind.has .i64 n) : g_prefix_Right (a, n, ()) = some ((decide (0 ≤ n ∧ n ≤ 32) && cleanB a n, ()), ()) := by
  rw [g_prefix_Right_eq, if_pos (by simp [h]), clean_is (by omega) hn, Option.bind_some]
  dsimp only
  refine dq_step (fun h0 => ?_) (fun h0 => ?_)
  · rw [w64 (by omega) (by omega)]
    refine dq_step (fun h1 => ?_) (fun h1 => ?_)
    · rw [decide_eq_true (by omega)]; rfl
    · rw [decide_eq_false (by omega)]; rfl
  · rw [decide_eq_false (by omega)]; rfl
theorem rpright4 {a : Bs} {n : Int} (h : a.length = 4) : g_ref04_Right (a, n, ()) = some ((decide (0 ≤ n ∧ n ≤ 32) && cleanB a n, ()), ()) := by
  rw [g_ref04_Right_eq, if_pos (by simp [h]), rclean_is (by omega), Option.bind_some]
  dsimp only
  refine dq_step (fun h0 => ?_) (fun h0 => ?_)
  · rw [w64 (by omega) (by omega)]
    refine dq_step (fun h1 => ?_) (fun h1 => ?_)
    · rw [decide_eq_true (by omega)]; rfl
    · rw [decide_eq_false (by omega)]; rfl
  · rw [decide_eq_false (by omega)]; rfl
theorem ripRight_is {m : Msg} (g : RM m) : g_rip_Right (m, ()) = some ((rightR m, ()), ()) := by
  have no : ¬ okR m → (some ((false, ()), ()) : Option ((Bool × Unit) × Unit)) = some ((rightR m, ()), ()) := fun h => by
    have : rightR m = false := by cases e : rightR m with | false => rfl | true => exact absurd (rightR_true.1 e) h
    rw [this]
  have yes : ∀ {b : Bool}, (b = true ↔ okR m) → (some ((b, ()), ()) : Option ((Bool × Unit) × Unit)) = some ((rightR m, ()), ()) := fun {b} h => by
    have : b = rightR m := by rw [Bool.eq_iff_iff, h, rightR_true]
    rw [this]
  rw [g_rip_Right_eq]
  refine ne_step (fun hk => no fun h => hk h.1) (fun hk => ?_)
  rw [bare_is, Option.bind_some]
  refine nb_step (fun hb => no fun h => by have := h.2.1; dsimp only at hb; rw [hb] at this; cases this) (fun hb => ?_)
  dsimp only at hb
  rw [g_rip_four_eq, Option.bind_some]
  refine nb_step (fun hp => no fun h => by have := h.2.2.2.2.1; dsimp only at hp; simp at hp; omega) (fun hp => ?_)
  have hp4 : m.prefix_.length = 4 := by simp at hp; omega
  rw [g_rip_four_eq, Option.bind_some]
  refine nb_step (fun hp => no fun h => by have := h.2.2.2.2.2.1; dsimp only at hp; simp at hp; omega) (fun hn => ?_)
  have hn4 : m.next.length = 4 := by simp at hn; omega
  refine two_step (fun hc => no fun h => hc h.2.2.1) (fun hc => ?_)
  refine two_step (fun hv => no fun h => hv h.2.2.2.1) (fun hv => ?_)
  refine au_step (fun ha => no fun h => ha (by have := h.2.2.2.2.2.2.1; grind)) (fun ha => ?_)
  have ha' : m.auth = [] ∨ (m.ver = 2 ∧ m.auth.length = 18) := by grind
  have z8 := zero8 hp4 hn4
  have zn := zero4 hn4
  refine bq_step (fun f0 => ?_) (fun f0 => ?_)
  · refine bq_step (fun c1 => ?_) (fun c1 => no (by grind [okR]))
    refine bq_step (fun t0 => ?_) (fun t0 => no (by grind [okR]))
    refine bq_step (fun p0 => ?_) (fun t0 => no (by grind [okR]))
    refine bq_step (fun m0 => ?_) (fun t0 => no (by grind [okR]))
    rw [if_pos (maxB_of (by omega)), zero_is (by simp; omega), Option.bind_some]
    exact yes (by rw [z8]; grind [okR])
  · refine ne_step (fun f2 => no (by grind [okR])) (fun f2 => ?_)
    refine dq_step (fun h1 => no (by grind [okR])) (fun h1 => ?_)
    refine dq_step (fun h2 => no (by grind [okR])) (fun h2 => ?_)
    refine bq_step (fun v1 => ?_) (fun v1 => ?_)
    · refine bq_step (fun t0 => ?_) (fun t0 => no (by grind [okR]))
      refine bq_step (fun p0 => ?_) (fun t0 => no (by grind [okR]))
      rw [zero_is (by omega), Option.bind_some]
      exact yes (by rw [zn]; grind [okR])
    · have ft := fits_is (k := 2) g.tag (by omega) (by omega)
      rw [show ((2 : Nat) : Int) = 2 from rfl] at ft
      rw [ft, Option.bind_some]
      dsimp only
      have hf : fitsB m.tag 2 = true ↔ 0 ≤ m.tag ∧ m.tag ≤ 65535 := by unfold fitsB; rw [decide_eq_true_eq]; omega
      cases hfb : fitsB m.tag 2 with
      | false => rw [iff_]; exact no (fun h => by
        have : ¬ (0 ≤ m.tag ∧ m.tag ≤ 65535) := by rw [← hf, hfb]; simp
        grind [okR])
      | true =>
        have := hf.1 hfb
        rw [ift, pright4 hp4 g.plen, Option.bind_some]
        exact yes (by rw [Bool.and_eq_true, decide_eq_true_eq]; grind [okR])
theorem rripRight_is {m : Msg} (g : RM m) : g_ref10_Right (m, ()) = some ((rightR m, ()), ()) := by
  have no : ¬ okR m → (some ((false, ()), ()) : Option ((Bool × Unit) × Unit)) = some ((rightR m, ()), ()) := fun h => by
    have : rightR m = false := by cases e : rightR m with | false => rfl | true => exact absurd (rightR_true.1 e) h
    rw [this]
  have yes : ∀ {b : Bool}, (b = true ↔ okR m) → (some ((b, ()), ()) : Option ((Bool × Unit) × Unit)) = some ((rightR m, ()), ()) := fun {b} h => by
    have : b = rightR m := by rw [Bool.eq_iff_iff, h, rightR_true]
    rw [this]
  rw [g_ref10_Right_eq]
  refine ne_step (fun hk => no fun h => hk h.1) (fun hk => ?_)
  rw [rbare_is g.list g.subs, Option.bind_some]
  refine nb_step (fun hb => no fun h => by have := h.2.1; dsimp only at hb; rw [hb] at this; cases this) (fun hb => ?_)
  dsimp only at hb
  refine dq_step (fun h1 => no (by grind [okR])) (fun c1 => ?_)
  refine dq_step (fun h1 => no (by grind [okR])) (fun c2 => ?_)
  refine dq_step (fun h1 => no (by grind [okR])) (fun v1 => ?_)
  refine dq_step (fun h1 => no (by grind [okR])) (fun v2 => ?_)
  refine ne_step (fun h1 => no (by grind [okR])) (fun hp => ?_)
  refine ne_step (fun h1 => no (by grind [okR])) (fun hn => ?_)
  have hp4 : m.prefix_.length = 4 := by omega
  have hn4 : m.next.length = 4 := by omega
  have hc : m.cmd = 1 ∨ m.cmd = 2 := by omega
  have hv : m.ver = 1 ∨ m.ver = 2 := by omega
  refine rau_step (fun ha => no fun h => ha h.2.2.2.2.2.2.1) (fun ha => ?_)
  rw [nought_is, Option.bind_some]
  refine bq_step (fun f0 => ?_) (fun f0 => ?_)
  · refine bq_step (fun c1 => ?_) (fun c1 => no (by grind [okR]))
    refine bq_step (fun t0 => ?_) (fun t0 => no (by grind [okR]))
    refine bq_step (fun p0 => ?_) (fun t0 => no (by grind [okR]))
    refine be_stepR (fun e1 => ?_) (fun t0 => no (by grind [okR]))
    rw [Option.bind_some]
    refine be_stepR (fun e1 => ?_) (fun t0 => no (by grind [okR]))
    exact yes (by rw [beq_iff_eq]; grind [okR])
  · refine ne_step (fun f2 => no (by grind [okR])) (fun f2 => ?_)
    refine dq_step (fun h1 => no (by grind [okR])) (fun h1 => ?_)
    refine dq_step (fun h2 => no (by grind [okR])) (fun h2 => ?_)
    refine bq_step (fun v1 => ?_) (fun v1 => ?_)
    · refine bq_step (fun t0 => ?_) (fun t0 => no (by grind [okR]))
      refine bq_step (fun p0 => ?_) (fun t0 => no (by grind [okR]))
      rw [Option.bind_some]
      exact yes (by rw [beq_iff_eq]; grind [okR])
    · refine dq_step (fun t0 => ?_) (fun t0 => no (by grind [okR]))
      refine dq_step (fun t0 => ?_) (fun t0 => no (by grind [okR]))
      rw [rpright4 hp4, Option.bind_some]
      exact yes (by rw [Bool.and_eq_true, decide_eq_true_eq]; grind [okR])
end Go.VP
set_option linter.unusedVariables false
set_option linter.unusedSimpArgs false
set_option maxRecDepth 100000
namespace Go.VP
open Go Go.VI
abbrev Ent := S_api_Entry
structure EntOk (e : Ent) : Prop where
  fam : 0 ≤ e.family ∧ e.family ≤ 65535
  tag : 0 ≤ e.tag ∧ e.tag ≤ 65535
  addr : e.addr.length = 4
  mask : e.mask.length = 4
  next : e.next.length = 4
  metric : 0 ≤ e.metric ∧ e.metric ≤ 4294967295
end Go.VP
set_option linter.unusedVariables false
set_option linter.unusedSimpArgs false
set_option maxRecDepth 100000
namespace Go.VP
open Go Go.VI
theorem ishr8R {x : Int} (h : 0 ≤ x) : ishr .i64 x 8 = x / 256 := by
  unfold ishr
  rw [show (2 : Int) ^ (min (8 : Int).toNat IntKind.i64.bits) = 256 by decide]
  exact Int.fdiv_eq_ediv_of_nonneg _ (by decide)
theorem pput_loop {c : Nat} : ∀ (i m : Nat) (x : Int) (acc : Bs), i ≤ acc.length → acc.length ≤ 100 → i < m → 0 ≤ x → L_octet_Put_0 c m x ((i : Int) - 1) acc = some ((be i x ++ acc.drop i, true, ()), ())
  | 0, m, x, acc, h1, h2, hm, hx => by
    obtain ⟨m, rfl⟩ : ∃ k, m = k + 1 := ⟨m - 1, by omega⟩
    rw [L_octet_Put_0_eq, ifn (by omega)]; simp [be]
  | i + 1, m, x, acc, h1, h2, hm, hx => by
    obtain ⟨m, rfl⟩ : ∃ k, m = k + 1 := ⟨m - 1, by omega⟩
    have e : (((i + 1 : Nat) : Int) - 1) = (i : Int) := by omega
    rw [L_octet_Put_0_eq, e, ifd (by omega), if_pos (by omega), Int.toNat_natCast, if_pos (by omega), w64 (by omega) (by omega), ishr8R hx, pput_loop i m (x / 256) _ (by simp; omega) (by simp; omega) (by omega) (by omega), wu8, be]
    have : (acc.set i (u8of (x % 256))).drop i = u8of (x % 256) :: acc.drop (i + 1) := by
      rw [List.drop_eq_getElem_cons (by simp; omega), List.getElem_set_self, List.drop_set_of_lt (by omega)]
    rw [this]; simp
theorem oput_is {n : Int} {k : Nat} (hn : IntKind.has .i64 n) (h1 : 1 ≤ k) (h7 : k ≤ 7) (hf : fitsB n k = true) : g_octet_Put (n, (k : Int), ()) = some ((be k n, true, ()), ()) := by
  show h_octet_Put fuel (n, (k : Int), ()) = _
  have h0 : 0 ≤ n := by unfold fitsB at hf; rw [decide_eq_true_eq] at hf; exact hf.1
  rw [h_octet_Put_eq, fits_is hn h1 h7, Option.bind_some, hf]
  dsimp only
  have hr : (k : Int) ≤ roomI := by unfold roomI; omega
  rw [ifnt, if_pos ⟨by omega, hr⟩, w64 (by omega) (by omega), Int.toNat_natCast, pput_loop k fuel n _ (by simp) (by simp; omega) (fuel_ge (by omega)) h0]
  simp
def entB (e : Ent) : Bs := be 2 e.family ++ be 2 e.tag ++ e.addr ++ e.mask ++ e.next ++ be 4 e.metric
theorem fit2 {n : Int} (h : 0 ≤ n ∧ n ≤ 65535) : fitsB n 2 = true := by unfold fitsB; rw [decide_eq_true_eq]; omega
theorem fit4 {n : Int} (h : 0 ≤ n ∧ n ≤ 4294967295) : fitsB n 4 = true := by unfold fitsB; rw [decide_eq_true_eq]; omega
theorem entPut_is {e : Ent} (h : EntOk e) : g_entry_Put (e, ()) = some ((entB e, true, ()), ()) := by
  have h1 := h.addr; have h2 := h.mask; have h3 := h.next; have h4 := h.fam; have h5 := h.tag; have h6 := h.metric
  have hf : IntKind.has .i64 e.family := has64.2 (by omega)
  have ht : IntKind.has .i64 e.tag := has64.2 (by omega)
  have hm : IntKind.has .i64 e.metric := has64.2 (by omega)
  have a1 := fits_is (k := 4) hm (by omega) (by omega)
  have a2 := fits_is (k := 2) hf (by omega) (by omega)
  have a3 := fits_is (k := 2) ht (by omega) (by omega)
  have b1 := oput_is (k := 2) hf (by omega) (by omega) (fit2 h4)
  have b2 := oput_is (k := 2) ht (by omega) (by omega) (fit2 h5)
  have b3 := oput_is (k := 4) hm (by omega) (by omega) (fit4 h6)
  rw [fit4 h6] at a1; rw [fit2 h4] at a2; rw [fit2 h5] at a3
  rw [show ((2 : Nat) : Int) = 2 from rfl] at *
  rw [show ((4 : Nat) : Int) = 4 from rfl] at *
  rw [g_entry_Put_eq, if_neg (by simp; omega), if_neg (by simp; omega), if_neg (by simp; omega), a1, Option.bind_some]
  dsimp only
  rw [ifnt, a2, Option.bind_some]
  dsimp only
  rw [ifnt, a3, Option.bind_some]
  dsimp only
  rw [ifnt, b1, Option.bind_some, b2, Option.bind_some, b3, Option.bind_some]
  dsimp only
  have l2 := be_length 2
  have l4 := be_length 4
  rw [if_pos (maxB_of (by simp [l2])), if_pos (maxB_of (by simp [l2, h1])), if_pos (maxB_of (by simp [l2, h1, h2])), if_pos (maxB_of (by simp [l2, h1, h2, h3])), if_pos (maxB_of (by simp [l2, l4, h1, h2, h3]))]
  rfl
theorem oput1 {n : Int} {k : Nat} (hf : fitsB n k = true) : oput n k = (be k n, true) := by unfold oput; rw [if_pos hf]
theorem rentPut_is {e : Ent} (h : EntOk e) : g_ref08_Put (e, ()) = some ((entB e, true, ()), ()) := by
  have h1 := h.addr; have h2 := h.mask; have h3 := h.next; have h4 := h.fam; have h5 := h.tag; have h6 := h.metric
  have hf : IntKind.has .i64 e.family := has64.2 (by omega)
  have ht : IntKind.has .i64 e.tag := has64.2 (by omega)
  have hm : IntKind.has .i64 e.metric := has64.2 (by omega)
  have b1 := rput_is (k := 2) hf (by omega) (by omega)
  have b2 := rput_is (k := 2) ht (by omega) (by omega)
  have b3 := rput_is (k := 4) hm (by omega) (by omega)
  rw [oput1 (fit2 h4)] at b1; rw [oput1 (fit2 h5)] at b2; rw [oput1 (fit4 h6)] at b3
  rw [show ((2 : Nat) : Int) = 2 from rfl] at *
  rw [show ((4 : Nat) : Int) = 4 from rfl] at *
  rw [g_ref08_Put_eq, b1, Option.bind_some, b2, Option.bind_some, b3, Option.bind_some]
  dsimp only
  rw [ifnt, ifnt, ifnt, if_neg (by simp; omega), if_neg (by simp; omega), if_neg (by simp; omega)]
  have l2 := be_length 2
  have l4 := be_length 4
  rw [if_pos (maxB_of (by simp [l2])), if_pos (maxB_of (by simp [l2, h1])), if_pos (maxB_of (by simp [l2, h1, h2])), if_pos (maxB_of (by simp [l2, h1, h2, h3])), if_pos (maxB_of (by simp [l2, l4, h1, h2, h3]))]
  rfl
def entM (m : Msg) : Ent := ⟨m.family, m.tag, m.prefix_, (if m.family = 2 ∧ m.ver = 2 then maskF m.plen else z4), m.next, m.metric⟩
def lineF (m : Msg) : Bs := entB (entM m)
theorem entM_ok {m : Msg} (h : okR m) : EntOk (entM m) := by
  obtain ⟨_, _, _, _, hp, hn, _, h⟩ := h
  refine ⟨?_, ?_, hp, ?_, hn, ?_⟩
  · show 0 ≤ m.family ∧ m.family ≤ 65535; omega
  · show 0 ≤ m.tag ∧ m.tag ≤ 65535; omega
  · unfold entM; dsimp only; split
    · exact maskF_length _
    · rfl
  · show 0 ≤ m.metric ∧ m.metric ≤ 4294967295; omega
theorem lineF_length {m : Msg} (h : okR m) : (lineF m).length = 20 := by
  have g := entM_ok h
  unfold lineF entB
  have h1 := g.addr; have h2 := g.mask; have h3 := g.next
  simp [be_length, h1, h2, h3]
theorem zeros4 : g_octet_Zeros (4, ()) = some ((z4, ()), ()) := by
  rw [g_octet_Zeros_eq, if_pos (by unfold roomI; decide)]; rfl
theorem line_is {m : Msg} (h : okR m) : g_rip_line (m, ()) = some ((lineF m, ()), ()) := by
  have g := entPut_is (entM_ok h)
  rw [g_rip_line_eq, zeros4, Option.bind_some]
  refine bq_step (fun f2 => bq_step (fun v2 => ?_) (fun v2 => ?_)) (fun f2 => ?_)
  · have hp : 0 ≤ m.plen ∧ m.plen ≤ 32 := by obtain ⟨_, _, _, _, _, _, _, h⟩ := h; omega
    rw [maskOf_is hp.1 hp.2, Option.bind_some]
    have e : entM m = ⟨m.family, m.tag, m.prefix_, maskF m.plen, m.next, m.metric⟩ := by unfold entM; rw [if_pos ⟨f2, v2⟩]
    rw [e] at g
    dsimp only
    rw [g, Option.bind_some, ← e]; rfl
  · have e : entM m = ⟨m.family, m.tag, m.prefix_, z4, m.next, m.metric⟩ := by unfold entM; rw [if_neg (fun c => v2 c.2)]
    rw [e] at g
    dsimp only
    rw [g, Option.bind_some, ← e]; rfl
  · have e : entM m = ⟨m.family, m.tag, m.prefix_, z4, m.next, m.metric⟩ := by unfold entM; rw [if_neg (fun c => f2 c.1)]
    rw [e] at g
    dsimp only
    rw [g, Option.bind_some, ← e]; rfl
theorem rline_is {m : Msg} (h : okR m) : g_ref10_line (m, ()) = some ((lineF m, ()), ()) := by
  have g := rentPut_is (entM_ok h)
  rw [g_ref10_line_eq, nought_is, Option.bind_some]
  refine bq_step (fun f2 => bq_step (fun v2 => ?_) (fun v2 => ?_)) (fun f2 => ?_)
  · have hp : 0 ≤ m.plen ∧ m.plen ≤ 32 := by obtain ⟨_, _, _, _, _, _, _, h⟩ := h; omega
    rw [rmaskOf_is hp.1 hp.2, Option.bind_some]
    have e : entM m = ⟨m.family, m.tag, m.prefix_, maskF m.plen, m.next, m.metric⟩ := by unfold entM; rw [if_pos ⟨f2, v2⟩]
    rw [e] at g
    dsimp only
    rw [g, Option.bind_some, ← e]; rfl
  · have e : entM m = ⟨m.family, m.tag, m.prefix_, z4, m.next, m.metric⟩ := by unfold entM; rw [if_neg (fun c => v2 c.2)]
    rw [e] at g
    dsimp only
    rw [g, Option.bind_some, ← e]; rfl
  · have e : entM m = ⟨m.family, m.tag, m.prefix_, z4, m.next, m.metric⟩ := by unfold entM; rw [if_neg (fun c => f2 c.1)]
    rw [e] at g
    dsimp only
    rw [g, Option.bind_some, ← e]; rfl
def togP (f m : Msg) : Prop := m.cmd = f.cmd ∧ m.ver = f.ver ∧ m.auth = f.auth ∧ m.family ≠ 0 ∧ f.family ≠ 0
instance (f m : Msg) : Decidable (togP f m) := by unfold togP; infer_instance
def encGo (f : Msg) (most : Int) : List Msg → Nat → Bs → Bs × Int × Int
  | [], _, acc => (acc, 0, 0)
  | m :: r, i, acc => if (i : Int) = most then ([], (i : Int), 8) else if 0 < i ∧ ¬ togP f m then ([], (i : Int), 7) else encGo f most r (i + 1) (acc ++ lineF m)
theorem tog_is (f m : Msg) : ∃ b, g_rip_together (f, m, ()) = some ((b, ()), ()) ∧ (b = true ↔ togP f m) := by
  rw [g_rip_together_eq]
  by_cases h1 : m.cmd = f.cmd
  · rw [if_pos (by simp [h1])]
    by_cases h2 : m.ver = f.ver
    · rw [if_pos (by simp [h2])]
      by_cases h3 : m.auth = f.auth
      · rw [if_pos (by simp [h3])]
        by_cases h4 : m.family = 0
        · rw [if_neg (by simp [h4])]; exact ⟨_, rfl, by simp [togP, h4]⟩
        · rw [if_pos (by simp [h4])]; exact ⟨_, rfl, by simp [togP, h1, h2, h3, h4]⟩
      · rw [if_neg (by simpa using h3)]; exact ⟨_, rfl, by simp [togP, h3]⟩
    · rw [if_neg (by simpa using h2)]; exact ⟨_, rfl, by simp [togP, h2]⟩
  · rw [if_neg (by simpa using h1)]; exact ⟨_, rfl, by simp [togP, h1]⟩
theorem enc1_loop {n : Nat} {l : List Msg} {f : Msg} {most : Int} (hf : l[0]? = some f) (hok : ∀ m ∈ l, okR m) (hl : l.length ≤ 1000) : ∀ (d m i : Nat) (acc : Bs), i + d = l.length → d < m → acc.length ≤ 1000 + 20 * i →
    L_rip_Encode_1 n m l most acc i = some (((encGo f most (l.drop i) i acc).1, (encGo f most (l.drop i) i acc).2.1, (encGo f most (l.drop i) i acc).2.2, ()), ()) := by
  intro d
  induction d with
  | zero =>
    intro m i acc hd hm ha
    obtain ⟨m, rfl⟩ : ∃ k, m = k + 1 := ⟨m - 1, by omega⟩
    rw [L_rip_Encode_1_eq, ifn (by omega), List.drop_eq_nil_of_le (by omega)]; rfl
  | succ d ih =>
    intro m i acc hd hm ha
    obtain ⟨m, rfl⟩ : ∃ k, m = k + 1 := ⟨m - 1, by omega⟩
    have hi : i < l.length := by omega
    have ho := hok _ (List.getElem_mem hi)
    have := ih m (i + 1) (acc ++ lineF l[i]) (by omega) (by omega) (by simp [lineF_length ho]; omega)
    rw [show ((i + 1 : Nat) : Int) = (i : Int) + 1 by omega] at this
    rw [L_rip_Encode_1_eq, ifd (by omega), if_pos (by omega), Int.toNat_natCast, bind_at hi, List.drop_eq_getElem_cons hi, hf, Option.bind_some, line_is ho, Option.bind_some, if_pos (roomB_of (by rw [lineF_length ho]; omega)), w64 (by omega) (by omega), this, encGo]
    refine bq_step (fun h => ?_) (fun h => ?_)
    · rw [if_pos h]
    rw [if_neg h]
    obtain ⟨b, hb, hb'⟩ := tog_is f l[i]
    rw [hb, Option.bind_some]
    refine dq_step (fun h0 => ?_) (fun h0 => ?_)
    · refine nb_step (fun hz => ?_) (fun hz => ?_)
      · rw [if_pos ⟨by omega, by rw [← hb']; dsimp only at hz; rw [hz]; simp⟩]
      · rw [if_neg (fun c => c.2 (hb'.1 hz))]
    · rw [if_neg (fun c => h0 (by omega))]
theorem renc1_loop {n : Nat} {l : List Msg} {f : Msg} {most : Int} (hf : l[0]? = some f) (hok : ∀ m ∈ l, okR m) (hl : l.length ≤ 1000) (hmost : 0 ≤ most) : ∀ (d m i : Nat) (acc : Bs), i + d = l.length → d < m → (i : Int) ≤ most → acc.length ≤ 1000 + 20 * i →
    L_ref10_Encode_1 n m l f most acc i = some (((encGo f most (l.drop i) i acc).1, (encGo f most (l.drop i) i acc).2.1, (encGo f most (l.drop i) i acc).2.2, ()), ()) := by
  intro d
  induction d with
  | zero =>
    intro m i acc hd hm hmo ha
    obtain ⟨m, rfl⟩ : ∃ k, m = k + 1 := ⟨m - 1, by omega⟩
    rw [L_ref10_Encode_1_eq, ifn (by omega), List.drop_eq_nil_of_le (by omega)]; rfl
  | succ d ih =>
    intro m i acc hd hm hmo ha
    obtain ⟨m, rfl⟩ : ∃ k, m = k + 1 := ⟨m - 1, by omega⟩
    have hi : i < l.length := by omega
    have ho := hok _ (List.getElem_mem hi)
    rw [L_ref10_Encode_1_eq, ifd (by omega), List.drop_eq_getElem_cons hi, encGo]
    refine dq_step (fun h => ?_) (fun h => ?_)
    · rw [if_pos (show (i : Int) = most by omega)]
    have := ih m (i + 1) (acc ++ lineF l[i]) (by omega) (by omega) (by omega) (by simp [lineF_length ho]; omega)
    rw [show ((i + 1 : Nat) : Int) = (i : Int) + 1 by omega] at this
    rw [if_neg (show ¬ (i : Int) = most by omega)]
    have hp : 0 ≤ (i : Int) := by omega
    have hfi : i = 0 → l[i] = f := fun h0 => by
      subst h0
      rw [List.getElem?_eq_getElem hi] at hf; exact Option.some.inj hf
    simp only [if_pos hp, Int.toNat_natCast, List.getElem?_eq_getElem hi, Option.bind_some, rline_is ho]
    rw [if_pos (maxB_of (by rw [lineF_length ho]; omega)), w64 (by omega) (by omega), this]
    have key : ¬ togP f l[i] → 0 < i → (some (([], (i : Int), 7, ()), ()) : Option ((Bs × Int × Int × Unit) × Unit)) = some (((if 0 < i ∧ ¬ togP f l[i] then ([], (i : Int), 7) else encGo f most (List.drop (i + 1) l) (i + 1) (acc ++ lineF l[i])).1, (if 0 < i ∧ ¬ togP f l[i] then ([], (i : Int), 7) else encGo f most (List.drop (i + 1) l) (i + 1) (acc ++ lineF l[i])).2.1, (if 0 < i ∧ ¬ togP f l[i] then ([], (i : Int), 7) else encGo f most (List.drop (i + 1) l) (i + 1) (acc ++ lineF l[i])).2.2, ()), ()) := fun h h0 => by
      rw [if_pos ⟨h0, h⟩]
    have pos : ∀ {P : Prop}, ¬ P → (i = 0 → P) → 0 < i := fun {P} h h' => by
      rcases Nat.eq_zero_or_pos i with h0 | h0
      · exact absurd (h' h0) h
      · exact h0
    refine ne_step (fun hc => ?_) (fun hc => ?_)
    · exact key (fun c => hc c.1) (pos hc (fun h0 => by rw [hfi h0]))
    refine ne_step (fun hv => ?_) (fun hv => ?_)
    · exact key (fun c => hv c.2.1) (pos hv (fun h0 => by rw [hfi h0]))
    refine nq_step (fun ha => ?_) (fun ha => ?_)
    · exact key (fun c => ha c.2.2.1) (pos ha (fun h0 => by rw [hfi h0]))
    refine dq_step (fun h0 => ?_) (fun h0 => ?_)
    · refine bq_step (fun h1 => key (fun c => c.2.2.2.2 h1) (by omega)) (fun h1 => ?_)
      refine bq_step (fun h2 => key (fun c => c.2.2.2.1 h2) (by omega)) (fun h2 => ?_)
      rw [if_neg (fun c => c.2 ⟨hc, hv, ha, h2, h1⟩)]
    · rw [if_neg (fun c => h0 (by omega))]
open Classical in
noncomputable def badR : List Msg → Nat → Option Nat
  | [], _ => none
  | m :: r, i => if okR m then badR r (i + 1) else some i
def mostR (f : Msg) : Int := if f.auth = [] then 25 else 24
def headE (f : Msg) : Bs := [u8of (f.cmd % 256), u8of (f.ver % 256), 0, 0] ++ (if f.auth = [] then [] else [255, 255] ++ f.auth)
noncomputable def encR (l : List Msg) : Bs × Int × Int := match badR l 0 with
  | some i => ([], (i : Int), 1)
  | none => match l with
    | [] => ([], 0, 8)
    | f :: _ => encGo f (mostR f) l 0 (headE f)
theorem badR_none : ∀ {l : List Msg} {i : Nat}, badR l i = none → ∀ m ∈ l, okR m
  | [], _, _, m, hm => by cases hm
  | x :: r, i, h, m, hm => by
    unfold badR at h
    split at h
    · rename_i hx
      rcases List.mem_cons.1 hm with rfl | hm
      · exact hx
      · exact badR_none h m hm
    · cases h
theorem headE_length {f : Msg} (h : okR f) : (headE f).length = if f.auth = [] then 4 else 24 := by
  obtain ⟨_, _, _, _, _, _, ha, _⟩ := h
  unfold headE
  by_cases e : f.auth = []
  · rw [if_pos e, if_pos e]; rfl
  · rw [if_neg e, if_neg e]
    have : f.auth.length = 18 := by rcases ha with h | h; exact absurd h e; exact h.2
    simp [this]
theorem enc_is {l : List Msg} (g : ∀ m ∈ l, RM m) (hl : l.length ≤ 1000) : g_rip_Encode (l, ()) = some (((encR l).1, (encR l).2.1, (encR l).2.2, ()), ()) := by
  show h_rip_Encode fuel (l, ()) = _
  rw [h_rip_Encode_eq]
  have main : ∀ (d m i : Nat), i + d = l.length → d < m → badR l 0 = badR (l.drop i) i → L_rip_Encode_0 fuel m l i = some (((encR l).1, (encR l).2.1, (encR l).2.2, ()), ()) := by
    intro d
    induction d with
    | zero =>
      intro m i hd hm hb
      obtain ⟨m, rfl⟩ : ∃ k, m = k + 1 := ⟨m - 1, by omega⟩
      rw [List.drop_eq_nil_of_le (by omega)] at hb
      have hn : badR l 0 = none := hb
      have hok := badR_none hn
      rw [L_rip_Encode_0_eq, ifn (by omega)]
      cases l with
      | nil => rfl
      | cons f r =>
        have hf := hok f (by simp)
        have hl4 := headE_length hf
        have he : encR (f :: r) = encGo f (mostR f) (f :: r) 0 (headE f) := by unfold encR; rw [hn]
        rw [he, if_neg (by simp; omega)]
        simp only [List.getElem?_cons_zero, Option.bind_some]
        have L := fun (most : Int) (acc : Bs) (h : acc.length ≤ 1000) => enc1_loop (n := fuel) (f := f) (most := most) (l := f :: r) rfl hok hl (f :: r).length fuel 0 acc (by omega) (fuel_ge (by omega)) (by omega)
        rw [g_auth_Put_eq, wu8, wu8]
        by_cases ha : f.auth = []
        · rw [if_pos (by simp [ha]), Option.bind_some]
          have e1 : headE f = [u8of (f.cmd % 256), u8of (f.ver % 256), 0, 0] := by unfold headE; rw [if_pos ha]; rfl
          have e2 : mostR f = 25 := by unfold mostR; rw [if_pos ha]
          dsimp only
          rw [iff_, e1, e2]
          exact L 25 _ (by simp)
        · have h18 : f.auth.length = 18 := by
            obtain ⟨_, _, _, _, _, _, ha', _⟩ := hf
            rcases ha' with h | h
            · exact absurd h ha
            · exact h.2
          rw [if_neg (by simp; omega), if_pos (maxB_of (by omega)), Option.bind_some]
          have e1 : headE f = [u8of (f.cmd % 256), u8of (f.ver % 256), 0, 0] ++ ([255, 255] ++ f.auth) := by unfold headE; rw [if_neg ha]
          have e2 : mostR f = 24 := by unfold mostR; rw [if_neg ha]
          dsimp only
          rw [ift, if_pos (roomB_of (by simp; omega)), e1, e2]
          exact L 24 _ (by simp; omega)
    | succ d ih =>
      intro m i hd hm hb
      obtain ⟨m, rfl⟩ : ∃ k, m = k + 1 := ⟨m - 1, by omega⟩
      have hi : i < l.length := by omega
      rw [List.drop_eq_getElem_cons hi, badR] at hb
      rw [L_rip_Encode_0_eq, ifd (by omega), if_pos (by omega), Int.toNat_natCast, bind_at hi, ripRight_is (g _ (List.getElem_mem hi)), Option.bind_some]
      dsimp only
      by_cases ho : okR l[i]
      · rw [if_pos ho] at hb
        have := ih m (i + 1) (by omega) (by omega) hb
        rw [rightR_true.2 ho, ifnt, w64 (by omega) (by omega)]
        exact this
      · rw [if_neg ho] at hb
        have : rightR l[i] = false := by cases e' : rightR l[i] with | false => rfl | true => exact absurd (rightR_true.1 e') ho
        rw [this, ifnf]
        unfold encR; rw [hb]
  exact main l.length fuel 0 (by omega) (fuel_ge (by omega)) rfl
theorem renc_is {l : List Msg} (g : ∀ m ∈ l, RM m) (hl : l.length ≤ 1000) : g_ref10_Encode (l, ()) = some (((encR l).1, (encR l).2.1, (encR l).2.2, ()), ()) := by
  show h_ref10_Encode fuel (l, ()) = _
  rw [h_ref10_Encode_eq]
  have main : ∀ (d m i : Nat), i + d = l.length → d < m → badR l 0 = badR (l.drop i) i → L_ref10_Encode_0 fuel m l i = some (((encR l).1, (encR l).2.1, (encR l).2.2, ()), ()) := by
    intro d
    induction d with
    | zero =>
      intro m i hd hm hb
      obtain ⟨m, rfl⟩ : ∃ k, m = k + 1 := ⟨m - 1, by omega⟩
      rw [List.drop_eq_nil_of_le (by omega)] at hb
      have hn : badR l 0 = none := hb
      have hok := badR_none hn
      rw [L_ref10_Encode_0_eq, ifn (by omega)]
      cases l with
      | nil => rfl
      | cons f r =>
        have hf := hok f (by simp)
        have he : encR (f :: r) = encGo f (mostR f) (f :: r) 0 (headE f) := by unfold encR; rw [hn]
        have hc : 0 ≤ f.cmd ∧ f.cmd < 256 := by obtain ⟨_, _, hc, _⟩ := hf; omega
        have hv : 0 ≤ f.ver ∧ f.ver < 256 := by obtain ⟨_, _, _, hv, _⟩ := hf; omega
        have r1 := rof_is (n := f.cmd) (k := 1) (has64.2 (by omega)) (by omega) (by omega)
        have r2 := rof_is (n := f.ver) (k := 1) (has64.2 (by omega)) (by omega) (by omega)
        rw [oput1 (by unfold fitsB; rw [decide_eq_true_eq]; omega)] at r1 r2
        rw [show ((1 : Nat) : Int) = 1 from rfl] at r1 r2
        rw [he, if_neg (by simp; omega)]
        simp only [List.getElem?_cons_zero, Option.bind_some, r1, r2]
        rw [show be 1 f.cmd = [u8of (f.cmd % 256)] from rfl, show be 1 f.ver = [u8of (f.ver % 256)] from rfl]
        rw [if_pos (maxB_of (by simp)), if_pos (maxB_of (by simp))]
        have L := fun (most : Int) (acc : Bs) (h : acc.length ≤ 1000) (h0 : 0 ≤ most) => renc1_loop (n := fuel) (f := f) (most := most) (l := f :: r) rfl hok hl h0 (f :: r).length fuel 0 acc (by omega) (fuel_ge (by omega)) (by omega) (by omega)
        by_cases ha : f.auth = []
        · have e1 : headE f = ([u8of (f.cmd % 256)] ++ [u8of (f.ver % 256)]) ++ [0, 0] := by unfold headE; rw [if_pos ha]; rfl
          have e2 : mostR f = 25 := by unfold mostR; rw [if_pos ha]
          rw [if_neg (by simp [ha]), e1, e2]
          exact L 25 _ (by simp) (by omega)
        · have h18 : f.auth.length = 18 := by
            obtain ⟨_, _, _, _, _, _, ha', _⟩ := hf
            rcases ha' with h | h
            · exact absurd h ha
            · exact h.2
          have e1 : headE f = (([u8of (f.cmd % 256)] ++ [u8of (f.ver % 256)]) ++ [0, 0]) ++ ([255, 255] ++ f.auth) := by unfold headE; rw [if_neg ha]; rfl
          have e2 : mostR f = 24 := by unfold mostR; rw [if_neg ha]
          rw [if_pos (by simpa using ha), g_ref09_Put_eq, if_neg (by simp; omega), if_pos (maxB_of (by omega)), Option.bind_some]
          dsimp only
          rw [if_pos (maxB_of (by simp; omega)), e1, e2]
          exact L 24 _ (by simp; omega) (by omega)
    | succ d ih =>
      intro m i hd hm hb
      obtain ⟨m, rfl⟩ : ∃ k, m = k + 1 := ⟨m - 1, by omega⟩
      have hi : i < l.length := by omega
      rw [List.drop_eq_getElem_cons hi, badR] at hb
      rw [L_ref10_Encode_0_eq, ifd (by omega), if_pos (by omega), Int.toNat_natCast, bind_at hi, rripRight_is (g _ (List.getElem_mem hi)), Option.bind_some]
      dsimp only
      by_cases ho : okR l[i]
      · rw [if_pos ho] at hb
        have := ih m (i + 1) (by omega) (by omega) hb
        rw [rightR_true.2 ho, ifnt, w64 (by omega) (by omega)]
        exact this
      · rw [if_neg ho] at hb
        have : rightR l[i] = false := by cases e' : rightR l[i] with | false => rfl | true => exact absurd (rightR_true.1 e') ho
        rw [this, ifnf]
        unfold encR; rw [hb]
  exact main l.length fuel 0 (by omega) (fuel_ge (by omega)) rfl
end Go.VP
set_option linter.unusedVariables false
set_option linter.unusedSimpArgs false
set_option maxRecDepth 100000
namespace Go.VP
open Go Go.VI
theorem goodRM {m : Msg} (g : Good_api_Msg m) (h : Few m) : RM m := by
  obtain ⟨g1, g2, g3, g4, g5, g6, g7, g8, g9, g10, g11, g12, g13, g14, g15, g16, g17, g18, g19, g20, g21, _⟩ := g
  exact ⟨g9, g8, by have := h.list; omega, by have := h.subs; omega⟩
end Go.VP
set_option linter.unusedVariables false
set_option linter.unusedSimpArgs false
set_option maxRecDepth 100000
namespace Go.VP
open Go Go.VI
def extB (l : List Sub) : Bool := l.all (subB 0 255)
def AllE (l : List Sub) : Prop := ∀ y ∈ l, 0 ≤ y.type_ ∧ y.type_ ≤ 255 ∧ y.data.length ≤ 255
theorem allE_iff {l : List Sub} : extB l = true ↔ AllE l := by simp [extB, subB, AllE]
theorem eright_is {l : List Sub} (hl : l.length ≤ 1000000000) : g_ext_Right (l, ()) = some ((extB l, ()), ()) := by
  rw [g_ext_Right_eq, subs_is hl]; rfl
theorem reright_is {l : List Sub} (hl : l.length ≤ 1000000000) : g_ref13_Right (l, ()) = some ((extB l, ()), ()) := by
  rw [g_ref13_Right_eq, rsubs_is hl]; rfl
theorem u8t {y : Sub} (h : 0 ≤ y.type_ ∧ y.type_ ≤ 255 ∧ y.data.length ≤ 255) : u8of (IntKind.wrap .u8 y.type_) = u8of y.type_ ∧ u8of (IntKind.wrap .u8 (y.data.length : Int)) = u8of y.data.length := by
  rw [wu8, wu8, u8of_emod' h.1, u8of_emod' (by omega)]; exact ⟨rfl, rfl⟩
theorem eput_loop {l : List Sub} {n : Nat} (hr : AllE l) (h1 : l.length ≤ 1000000) : ∀ (d m i : Nat) (acc : Bs), i + d = l.length → d < m → acc.length ≤ 257 * i →
    L_ext_Put_0 n m l acc i = some ((acc ++ encS (l.drop i), true, ()), ()) := by
  intro d
  induction d with
  | zero =>
    intro m i acc hd hm ha
    obtain ⟨m, rfl⟩ : ∃ k, m = k + 1 := ⟨m - 1, by omega⟩
    rw [L_ext_Put_0_eq, ifn (by omega), List.drop_eq_nil_of_le (by omega), encS, List.append_nil]
  | succ d ih =>
    intro m i acc hd hm ha
    obtain ⟨m, rfl⟩ : ∃ k, m = k + 1 := ⟨m - 1, by omega⟩
    have hlt : i < l.length := by omega
    have hy := hr l[i] (List.getElem_mem hlt)
    have := ih m (i + 1) (acc ++ [u8of l[i].type_, u8of l[i].data.length] ++ l[i].data) (by omega) (by omega) (by simp; omega)
    rw [show ((i + 1 : Nat) : Int) = (i : Int) + 1 by omega] at this
    rw [L_ext_Put_0_eq, ifd (by omega), if_pos (by omega), Int.toNat_natCast, bind_at hlt, (u8t hy).1, (u8t hy).2, if_pos (roomB_of (by simp; omega)), if_pos (roomB_of (by simp; omega)), w64 (by omega) (by omega), this, List.drop_eq_getElem_cons hlt, encS]
    simp
theorem reput_loop {l : List Sub} {n : Nat} (hr : AllE l) (h1 : l.length ≤ 1000000) : ∀ (d m i : Nat) (acc : Bs), i + d = l.length → d < m → acc.length ≤ 257 * i →
    L_ref13_Put_0 n m l acc i = some ((acc ++ encS (l.drop i), true, ()), ()) := by
  intro d
  induction d with
  | zero =>
    intro m i acc hd hm ha
    obtain ⟨m, rfl⟩ : ∃ k, m = k + 1 := ⟨m - 1, by omega⟩
    rw [L_ref13_Put_0_eq, ifn (by omega), List.drop_eq_nil_of_le (by omega), encS, List.append_nil]
  | succ d ih =>
    intro m i acc hd hm ha
    obtain ⟨m, rfl⟩ : ∃ k, m = k + 1 := ⟨m - 1, by omega⟩
    have hlt : i < l.length := by omega
    have hy := hr l[i] (List.getElem_mem hlt)
    have := ih m (i + 1) (acc ++ [u8of l[i].type_, u8of l[i].data.length] ++ l[i].data) (by omega) (by omega) (by simp; omega)
    rw [show ((i + 1 : Nat) : Int) = (i : Int) + 1 by omega] at this
    rw [L_ref13_Put_0_eq, ifd (by omega), if_pos (by omega), Int.toNat_natCast, bind_at hlt, if_pos (by omega), bind_at hlt, (u8t hy).1, (u8t hy).2, if_pos (maxB_of (by simp; omega)), if_pos (by omega), bind_at hlt, if_pos (maxB_of (by simp; omega)), w64 (by omega) (by omega), this, List.drop_eq_getElem_cons hlt, encS]
    simp
def putE (l : List Sub) : Bs × Bool := if extB l = true then (encS l, true) else ([], false)
theorem putE_ok {l : List Sub} (h : extB l = true) : putE l = (encS l, true) := by unfold putE; rw [if_pos h]
theorem eput_is {l : List Sub} (hl : FewS l) (h1 : l.length ≤ 1000000) : g_ext_Put (l, ()) = some (((putE l).1, (putE l).2, ()), ()) := by
  show h_ext_Put fuel _ = _
  have hs := sumN_rng hl
  rw [h_ext_Put_eq, eright_is hl.1, Option.bind_some]
  unfold putE
  dsimp only
  by_cases h : extB l = true
  · have := eput_loop (n := fuel) (allE_iff.1 h) h1 l.length fuel 0 [] (by omega) (fuel_ge (by omega)) (by simp)
    rw [show ((0 : Nat) : Int) = 0 from rfl] at this
    rw [h, ifnt, bytes_is hl, Option.bind_some, if_pos (show 0 ≤ sumN l ∧ sumN l ≤ roomI by unfold roomI; omega), this, ift]
    simp
  · rw [Bool.not_eq_true] at h
    rw [h, ifnf, iff_]
theorem reput_is {l : List Sub} (hl : FewS l) (h1 : l.length ≤ 1000000) : g_ref13_Put (l, ()) = some (((putE l).1, (putE l).2, ()), ()) := by
  show h_ref13_Put fuel _ = _
  rw [h_ref13_Put_eq, reright_is hl.1, Option.bind_some]
  unfold putE
  dsimp only
  by_cases h : extB l = true
  · have := reput_loop (n := fuel) (allE_iff.1 h) h1 l.length fuel 0 [] (by omega) (fuel_ge (by omega)) (by simp)
    rw [show ((0 : Nat) : Int) = 0 from rfl] at this
    rw [h, ifnt, this, ift]
    simp
  · rw [Bool.not_eq_true] at h
    rw [h, ifnf, iff_]
end Go.VP
set_option linter.unusedVariables false
set_option linter.unusedSimpArgs false
set_option maxRecDepth 100000
namespace Go.VP
open Go Go.VI
def z16 : Bs := [0, 0, 0, 0, 0, 0, 0, 0, 0, 0, 0, 0, 0, 0, 0, 0]
theorem zeros16 : g_octet_Zeros (16, ()) = some ((z16, ()), ()) := by
  rw [g_octet_Zeros_eq, if_pos (by unfold roomI; decide)]; rfl
theorem none12_is : g_ref12_none () = some ((z16, ()), ()) := by
  rw [g_ref12_none_eq, g_ref02_Zeros_eq, ifn (by decide), if_pos (by unfold roomI; decide), Option.bind_some]; rfl
def preB (a : Bs) (n : Int) : Bool := decide (0 ≤ n ∧ n ≤ 128) && cleanB a n
theorem pright16_is {a : Bs} {n : Int} (h : a.length = 16) (hn : IntKind.has .i64 n) : g_prefix_Right (a, n, ()) = some ((preB a n, ()), ()) := by
  have h8 : IntKind.wrap .i64 (8 * (a.length : Int)) = 128 := by rw [h]; rfl
  rw [g_prefix_Right_eq, h8]
  unfold preB
  refine bq_step (fun q => by omega) (fun _ => ?_)
  refine bq_step (fun _ => ?_) (fun q => by omega)
  refine dq_step' (fun h0 => ?_) (fun h0 => ?_)
  · refine dq_step' (fun h1 => ?_) (fun h1 => ?_)
    · rw [clean_is (by omega) hn, Option.bind_some, decide_eq_true ⟨h0, h1⟩, Bool.true_and]
    · rw [decide_eq_false (fun q => h1 q.2), Bool.false_and]
  · rw [decide_eq_false (fun q => h0 q.1), Bool.false_and]
theorem rright16_is {a : Bs} {n : Int} (h : a.length = 16) : g_ref04_Right (a, n, ()) = some ((preB a n, ()), ()) := by
  rw [rright4_is (by omega) (.inr h), h]; rfl
structure NgR (m : Msg) : Prop where
  kind : m.kind = 2
  bare : bareB m = true
  cmd : m.cmd = 1 ∨ m.cmd = 2
  tag : 0 ≤ m.tag ∧ m.tag < 65536
  metric : 1 ≤ m.metric ∧ m.metric ≤ 16
  len : m.prefix_.length = 16
  pre : preB m.prefix_ m.plen = true
  next : m.next = z16 ∨ linkB m.next = true
open Classical in
noncomputable def ngB (m : Msg) : Bool := decide (NgR m)
theorem ngR_iff {m : Msg} : ngB m = true ↔ NgR m := by simp [ngB]
theorem ngB_no {m : Msg} (h : ¬ NgR m) : ngB m = false := by simp [ngB, h]
theorem NgR.next16 {m : Msg} (h : NgR m) : m.next.length = 16 := by
  rcases h.next with e | e
  · rw [e]; rfl
  · exact (linkB_len e).1
theorem NgR.plen {m : Msg} (h : NgR m) : 0 ≤ m.plen ∧ m.plen ≤ 128 := by
  have := h.pre; unfold preB at this; simp at this; exact this.1
structure GoodG (m : Msg) : Prop where
  tag : IntKind.has .i64 m.tag
  plen : IntKind.has .i64 m.plen
  cmd : IntKind.has .i64 m.cmd
  list : m.list.length ≤ 1000000000
  subs : m.subs.length ≤ 1000000000
theorem link_or {m : Msg} {r : Option ((Bool × Unit) × Unit)} (h : r = some ((linkB m.next, ()), ())) (hk : NgR m ↔ (m.next = z16 ∨ linkB m.next = true)) : (if (m.next == z16) = true then (some ((true, ()), ()) : Option ((Bool × Unit) × Unit)) else r.bind fun r5 => some ((r5.1.1, ()), ())) = some ((ngB m, ()), ()) := by
  refine be_step (fun q => by rw [ngR_iff.2 (hk.2 (.inl q))]) (fun q => ?_)
  rw [h, Option.bind_some]
  cases hl : linkB m.next with
  | true => rw [ngR_iff.2 (hk.2 (.inr hl))]
  | false => rw [ngB_no (fun x => by rcases hk.1 x with e | e; exact q e; rw [hl] at e; cases e)]
theorem ngright_is {m : Msg} (g : GoodG m) : g_ripng_Right (m, ()) = some ((ngB m, ()), ()) := by
  rw [g_ripng_Right_eq]
  have no : ¬ NgR m → (some ((false, ()), ()) : Option ((Bool × Unit) × Unit)) = some ((ngB m, ()), ()) := fun h => by rw [ngB_no h]
  have tail : (m.kind = 2) → bareB m = true → (m.cmd = 1 ∨ m.cmd = 2) → ((g_octet_Fits (m.tag, 2, ())).bind fun r6 => (if (!r6.1.1) = true then some ((false, ()), ()) else (if (decide (m.metric < 1)) = true then some ((false, ()), ()) else (if (decide (16 < m.metric)) = true then some ((false, ()), ()) else (if ((m.prefix_.length : Int) != 16) = true then some ((false, ()), ()) else ((g_prefix_Right (m.prefix_, m.plen, ())).bind fun r7 => (if (!r7.1.1) = true then some ((false, ()), ()) else ((g_octet_Zeros (16, ())).bind fun r8 => (if (m.next == r8.1.1) = true then some ((true, ()), ()) else ((g_addr_Link (m.next, ())).bind fun r9 => some ((r9.1.1, ()), ())))))))))))= (some ((ngB m, ()), ()) : Option ((Bool × Unit) × Unit)) := by
    intro hk hb hc
    rw [show g_octet_Fits (m.tag, 2, ()) = some ((fitsB m.tag 2, ()), ()) from fits_is (k := 2) g.tag (by omega) (by omega), Option.bind_some]
    dsimp only
    cases hf : fitsB m.tag 2 with
    | false => rw [ifnf]; exact no (fun h => by rw [fitsB2.2 h.tag] at hf; cases hf)
    | true =>
      rw [ifnt]
      refine dq_step' (fun q => no (fun h => by have := h.metric; omega)) (fun h1 => ?_)
      refine dq_step' (fun q => no (fun h => by have := h.metric; omega)) (fun h2 => ?_)
      refine ne_step (fun q => no (fun h => by have := h.len; omega)) (fun h3 => ?_)
      rw [pright16_is (by omega) g.plen, Option.bind_some]
      dsimp only
      cases hp : preB m.prefix_ m.plen with
      | false => rw [ifnf]; exact no (fun h => by rw [h.pre] at hp; cases hp)
      | true =>
        rw [ifnt, zeros16, Option.bind_some]
        exact link_or (link_is _) ⟨fun h => h.next, fun h => ⟨hk, hb, hc, fitsB2.1 hf, by omega, by omega, hp, h⟩⟩
  refine ne_step (fun q => no (fun h => q h.kind)) (fun hk => ?_)
  rw [bare_is, Option.bind_some]
  dsimp only
  cases hb : bareB m with
  | false => rw [ifnf]; exact no (fun h => by rw [h.bare] at hb; cases hb)
  | true =>
    rw [ifnt]
    refine ne_step (fun q1 => ?_) (fun q1 => tail hk hb (.inl q1))
    exact ne_step (fun q2 => no (fun h => by have := h.cmd; omega)) (fun q2 => tail hk hb (.inr q2))
theorem rngright_is {m : Msg} (g : GoodG m) : g_ref12_Right (m, ()) = some ((ngB m, ()), ()) := by
  rw [g_ref12_Right_eq]
  have no : ¬ NgR m → (some ((false, ()), ()) : Option ((Bool × Unit) × Unit)) = some ((ngB m, ()), ()) := fun h => by rw [ngB_no h]
  refine bq_step (fun hk => ?_) (fun q => no (fun h => q h.kind))
  rw [rbare_is g.list g.subs, Option.bind_some]
  dsimp only
  cases hb : bareB m with
  | false => rw [iff_]; exact no (fun h => by rw [h.bare] at hb; cases hb)
  | true =>
    rw [ift]
    refine dq_step' (fun h1 => ?_) (fun q => no (fun h => by have := h.cmd; omega))
    refine dq_step' (fun h2 => ?_) (fun q => no (fun h => by have := h.cmd; omega))
    refine dq_step' (fun h3 => ?_) (fun q => no (fun h => by have := h.tag; omega))
    refine dq_step' (fun h4 => ?_) (fun q => no (fun h => by have := h.tag; omega))
    refine dq_step' (fun h5 => ?_) (fun q => no (fun h => by have := h.metric; omega))
    refine dq_step' (fun h6 => ?_) (fun q => no (fun h => by have := h.metric; omega))
    refine bq_step (fun h7 => ?_) (fun q => no (fun h => by have := h.len; omega))
    rw [rright16_is (by omega), Option.bind_some]
    dsimp only
    cases hp : preB m.prefix_ m.plen with
    | false => rw [iff_]; exact no (fun h => by rw [h.pre] at hp; cases hp)
    | true =>
      rw [ift, none12_is, Option.bind_some]
      exact link_or (rlink_is _) ⟨fun h => h.next, fun h => ⟨hk, hb, by omega, by omega, by omega, by omega, hp, h⟩⟩
abbrev EntN := S_api_Entry
def entG (a : Bs) (t f m : Int) : Bs := a ++ (be 2 t ++ [u8of f, u8of m])
theorem entG_len {a : Bs} (h : a.length = 16) (t f m : Int) : (entG a t f m).length = 20 := by unfold entG; simp [be_length]; omega
theorem be1 {n : Int} (h : 0 ≤ n) : be 1 n = [u8of n] := by
  show be 0 (n / 256) ++ [u8of (n % 256)] = _
  rw [u8of_emod' h]; rfl
theorem rteput_is {a : Bs} {t f m : Int} (ha : a.length = 16) (ht : 0 ≤ t ∧ t < 65536) (hf : 0 ≤ f ∧ f < 256) (hm : 0 ≤ m ∧ m < 256) : g_rte_Put (⟨f, t, a, [], [], m⟩, ()) = some ((entG a t f m, true, ()), ()) := by
  have f1 : ∀ {n : Int}, 0 ≤ n ∧ n < 256 → fitsB n 1 = true := fun h => by unfold fitsB; rw [decide_eq_true_eq]; omega
  rw [g_rte_Put_eq]
  dsimp only
  refine ne_step (fun q => by omega) (fun _ => ?_)
  rw [if_pos (maxB_of (by simp)), if_neg (by simp), show g_octet_Fits (t, 2, ()) = some ((fitsB t 2, ()), ()) from fits_is (k := 2) (has64.2 (by omega)) (by omega) (by omega), Option.bind_some, fitsB2.2 ht]
  dsimp only
  rw [ifnt, show g_octet_Fits (f, 1, ()) = some ((fitsB f 1, ()), ()) from fits_is (k := 1) (has64.2 (by omega)) (by omega) (by omega), Option.bind_some, f1 hf]
  dsimp only
  rw [ifnt, show g_octet_Fits (m, 1, ()) = some ((fitsB m 1, ()), ()) from fits_is (k := 1) (has64.2 (by omega)) (by omega) (by omega), Option.bind_some, f1 hm]
  dsimp only
  rw [ifnt, if_pos (maxB_of (by simp; omega)), u8w hf.1, u8w hm.1]
  unfold entG
  rw [← be2 ht]; rfl
theorem rput11_is {a : Bs} {t f m : Int} (ha : a.length = 16) (ht : 0 ≤ t ∧ t < 65536) (hf : 0 ≤ f ∧ f < 256) (hm : 0 ≤ m ∧ m < 256) : g_ref11_Put (⟨f, t, a, [], [], m⟩, ()) = some ((entG a t f m, true, ()), ()) := by
  have f1 : ∀ {n : Int}, 0 ≤ n ∧ n < 256 → oput n 1 = (be 1 n, true) := fun h => by unfold oput fitsB; rw [if_pos (by rw [decide_eq_true_eq]; omega)]
  have f2 : oput t 2 = (be 2 t, true) := by unfold oput; rw [if_pos (fitsB2.2 ht)]
  have p2 : g_ref02_Put (t, 2, ()) = some (((oput t 2).1, (oput t 2).2, ()), ()) := rput_is (k := 2) (has64.2 (by omega)) (by omega) (by omega)
  have p1 : ∀ {n : Int}, 0 ≤ n ∧ n < 256 → g_ref02_Put (n, 1, ()) = some (((oput n 1).1, (oput n 1).2, ()), ()) := fun h => rput_is (k := 1) (has64.2 (by omega)) (by omega) (by omega)
  have l1 : ∀ n, (be 1 n).length = 1 := be_length 1
  have l2 : ∀ n, (be 2 n).length = 2 := be_length 2
  rw [g_ref11_Put_eq]
  dsimp only
  rw [p2, Option.bind_some, p1 hf, Option.bind_some, p1 hm, Option.bind_some, f2, f1 hf, f1 hm]
  dsimp only
  rw [ifnt, ifnt, ifnt]
  refine ne_step (fun q => by omega) (fun _ => ?_)
  rw [if_neg (by simp), if_neg (by simp), if_pos (maxB_of (by rw [l2]; omega)), if_pos (maxB_of (by simp [l2, l1]; omega)), if_pos (maxB_of (by simp [l2, l1]; omega)), be1 hf.1, be1 hm.1]
  unfold entG
  simp
end Go.VP
set_option linter.unusedVariables false
set_option linter.unusedSimpArgs false
set_option maxRecDepth 100000
namespace Go.VP
open Go Go.VI
structure EntKN (e : EntN) : Prop where
  addr : e.addr.length = 16
  tag : 0 ≤ e.tag ∧ e.tag < 65536
  fam : 0 ≤ e.family ∧ e.family < 256
  met : 0 ≤ e.metric ∧ e.metric < 256
end Go.VP
set_option linter.unusedVariables false
set_option linter.unusedSimpArgs false
set_option maxRecDepth 100000
namespace Go.VP
open Go Go.VI
def hopL (nx : Bs) (m : Msg) : Bs := if m.next = nx then [] else entG m.next 0 0 255
def lineN (nx : Bs) (m : Msg) : Bs := hopL nx m ++ entG m.prefix_ m.tag m.plen m.metric
theorem lineN_len {nx : Bs} {m : Msg} (h : NgR m) : (lineN nx m).length = if m.next = nx then 20 else 40 := by
  unfold lineN hopL
  split <;> simp [entG_len h.len, entG_len h.next16]
def encN (c : Int) : List Msg → Nat → Bs → Bs → Bs × Int × Int
  | [], _, acc, _ => (acc, 0, 0)
  | m :: r, i, acc, nx => if m.cmd ≠ c then ([], (i : Int), 7) else if 65535 < (acc ++ lineN nx m).length then ([], (i : Int), 10) else encN c r (i + 1) (acc ++ lineN nx m) m.next
theorem ngput_is {acc nx a : Bs} {t f m : Int} (ha : a.length = 16) (ht : 0 ≤ t ∧ t < 65536) (hf : 0 ≤ f ∧ f < 256) (hm : 0 ≤ m ∧ m < 256) (hl : acc.length ≤ 1000000) :
    g_ripng_writer_put (⟨acc, nx⟩, ⟨f, t, a, [], [], m⟩, ()) = some ((), (⟨acc ++ entG a t f m, nx⟩, ())) := by
  rw [g_ripng_writer_put_eq, rteput_is ha ht hf hm, Option.bind_some]
  dsimp only
  rw [if_pos (roomB_of (by rw [entG_len ha]; omega))]
theorem ngroute_is {acc nx : Bs} {m : Msg} (h : NgR m) (hl : acc.length ≤ 100000) : g_ripng_writer_route (⟨acc, nx⟩, m, ()) = some ((), (⟨acc ++ lineN nx m, m.next⟩, ())) := by
  have hp := h.plen
  have hm := h.metric
  rw [g_ripng_writer_route_eq]
  unfold lineN hopL
  refine nq_step (fun q => ?_) (fun q => ?_)
  · rw [if_neg q, ngput_is h.next16 (by omega) (by omega) (by omega) (by show acc.length ≤ _; omega), Option.bind_some]
    dsimp only
    rw [ngput_is h.len h.tag (by omega) (by omega) (by rw [List.length_append, entG_len h.next16]; omega), Option.bind_some, List.append_assoc]
  · dsimp only at q
    rw [if_pos q, ngput_is h.len h.tag (by omega) (by omega) (by omega), Option.bind_some, q]
    rfl
theorem ngenc_loop {n : Nat} {l : List Msg} {f : Msg} (hf : l[0]? = some f) (hok : ∀ m ∈ l, NgR m) (hl : l.length ≤ 1000000) : ∀ (d m i : Nat) (acc nx : Bs), i + d = l.length → d < m → acc.length ≤ 65535 →
    L_ripng_Encode_1 n m l acc nx i = some (trip (encN f.cmd (l.drop i) i acc nx), ()) := by
  intro d
  induction d with
  | zero =>
    intro m i acc nx hd hm ha
    obtain ⟨m, rfl⟩ : ∃ k, m = k + 1 := ⟨m - 1, by omega⟩
    rw [L_ripng_Encode_1_eq, ifn (by omega), List.drop_eq_nil_of_le (by omega)]; try rfl
  | succ d ih =>
    intro m i acc nx hd hm ha
    obtain ⟨m, rfl⟩ : ∃ k, m = k + 1 := ⟨m - 1, by omega⟩
    have hi : i < l.length := by omega
    have ho := hok _ (List.getElem_mem hi)
    rw [L_ripng_Encode_1_eq, ifd (by omega), if_pos (by omega), Int.toNat_natCast, bind_at hi, hf, Option.bind_some, List.drop_eq_getElem_cons hi, encN, ngroute_is ho (by omega), Option.bind_some]
    refine ne_step (fun h => ?_) (fun h => ?_)
    · rw [if_pos h]; try rfl
    rw [if_neg (show ¬ l[i].cmd ≠ f.cmd from fun c => c h)]
    refine dq_step (fun h => ?_) (fun h => ?_)
    · rw [if_pos (show 65535 < (acc ++ lineN nx l[i]).length by dsimp only at h; omega)]; try rfl
    · dsimp only at h
      have := ih m (i + 1) (acc ++ lineN nx l[i]) l[i].next (by omega) (by omega) (by omega)
      rw [show ((i + 1 : Nat) : Int) = (i : Int) + 1 by omega] at this
      rw [if_neg (show ¬ 65535 < (acc ++ lineN nx l[i]).length by omega), w64 (by omega) (by omega)]
      exact this
theorem rngenc_loop {n : Nat} {l : List Msg} {f : Msg} (hf : l[0]? = some f) (hok : ∀ m ∈ l, NgR m) (hl : l.length ≤ 1000000) : ∀ (d m i : Nat) (acc nx : Bs), i + d = l.length → d < m → acc.length ≤ 65535 →
    L_ref12_Encode_1 n m l acc nx i = some (trip (encN f.cmd (l.drop i) i acc nx), ()) := by
  intro d
  induction d with
  | zero =>
    intro m i acc nx hd hm ha
    obtain ⟨m, rfl⟩ : ∃ k, m = k + 1 := ⟨m - 1, by omega⟩
    rw [L_ref12_Encode_1_eq, ifn (by omega), List.drop_eq_nil_of_le (by omega)]; try rfl
  | succ d ih =>
    intro m i acc nx hd hm ha
    obtain ⟨m, rfl⟩ : ∃ k, m = k + 1 := ⟨m - 1, by omega⟩
    have hi : i < l.length := by omega
    have ho := hok _ (List.getElem_mem hi)
    have hp : 0 ≤ (i : Int) := by omega
    have hpl := ho.plen
    have hme := ho.metric
    have hln := lineN_len (nx := nx) ho
    have go : (acc ++ lineN nx l[i]).length ≤ 65535 → L_ref12_Encode_1 n m l (acc ++ lineN nx l[i]) l[i].next ((i : Int) + 1) = some (trip (encN f.cmd (l.drop (i + 1)) (i + 1) (acc ++ lineN nx l[i]) l[i].next), ()) := fun h => by
      have := ih m (i + 1) (acc ++ lineN nx l[i]) l[i].next (by omega) (by omega) h
      rw [show ((i + 1 : Nat) : Int) = (i : Int) + 1 by omega] at this
      exact this
    rw [L_ref12_Encode_1_eq, ifd (by omega), List.drop_eq_getElem_cons hi, encN]
    simp only [if_pos hp, Int.toNat_natCast, List.getElem?_eq_getElem hi, Option.bind_some, hf]
    rw [rput11_is ho.next16 (by omega) (by omega) (by omega), rput11_is ho.len ho.tag (by omega) (by omega)]
    simp only [Option.bind_some]
    generalize hN : l[i].next = nn at *
    have hnl : nn.length = 16 := by rw [← hN]; exact ho.next16
    refine ne_step (fun h => ?_) (fun h => ?_)
    · rw [if_pos h]; try rfl
    rw [if_neg (show ¬ l[i].cmd ≠ f.cmd from fun c => c h), w64 (by omega) (by omega)]
    unfold lineN hopL at *
    rw [hN] at *
    refine nq_step (fun q => ?_) (fun q => ?_)
    · rw [if_neg q, if_pos (maxB_of (by rw [entG_len hnl]; omega)), if_pos (maxB_of (by simp only [List.length_append, entG_len hnl, entG_len ho.len]; omega)), List.append_assoc]
      rw [if_neg q] at go
      refine dq_step (fun h => ?_) (fun h => ?_)
      · rw [if_pos (by omega)]; try rfl
      · rw [if_neg (by omega)]; exact go (by omega)
    · rw [if_pos q, if_pos (maxB_of (by rw [entG_len ho.len]; omega))]
      rw [if_pos q] at go
      refine dq_step (fun h => ?_) (fun h => ?_)
      · rw [if_pos (by simp only [List.nil_append]; omega)]; try rfl
      · rw [if_neg (by simp only [List.nil_append]; omega), ← q]; exact go (by simp only [List.nil_append]; omega)
def badP (f : Msg → Bool) : List Msg → Nat → Option Nat
  | [], _ => none
  | m :: r, i => if f m = true then badP f r (i + 1) else some i
theorem badP_none {f : Msg → Bool} : ∀ {l : List Msg} {i : Nat}, badP f l i = none → ∀ m ∈ l, f m = true
  | [], _, _, m, hm => by cases hm
  | x :: r, i, h, m, hm => by
    unfold badP at h
    split at h
    · rename_i hx
      rcases List.mem_cons.1 hm with rfl | hm
      · exact hx
      · exact badP_none h m hm
    · cases h
theorem badP_ok {f : Msg → Bool} : ∀ {l : List Msg} {i : Nat}, (∀ m ∈ l, f m = true) → badP f l i = none
  | [], _, _ => rfl
  | x :: r, i, h => by
    unfold badP; rw [if_pos (h x (by simp))]; exact badP_ok (fun m hm => h m (by simp [hm]))
noncomputable def encNg (l : List Msg) : Bs × Int × Int := match badP ngB l 0 with
  | some i => ([], (i : Int), 1)
  | none => match l with
    | [] => ([], 0, 8)
    | f :: _ => encN f.cmd l 0 [u8of f.cmd, 1, 0, 0] z16
theorem ngenc_is {l : List Msg} (g : ∀ m ∈ l, GoodG m) (hl : l.length ≤ 1000000) : g_ripng_Encode (l, ()) = some (trip (encNg l), ()) := by
  show h_ripng_Encode fuel (l, ()) = _
  rw [h_ripng_Encode_eq]
  have main : ∀ (d m i : Nat), i + d = l.length → d < m → badP ngB l 0 = badP ngB (l.drop i) i → L_ripng_Encode_0 fuel m l i = some (trip (encNg l), ()) := by
    intro d
    induction d with
    | zero =>
      intro m i hd hm hb
      obtain ⟨m, rfl⟩ : ∃ k, m = k + 1 := ⟨m - 1, by omega⟩
      rw [List.drop_eq_nil_of_le (by omega)] at hb
      have hn : badP ngB l 0 = none := hb
      have hok := badP_none hn
      rw [L_ripng_Encode_0_eq, ifn (by omega)]
      cases l with
      | nil => rfl
      | cons f r =>
        have hf := ngR_iff.1 (hok f (by simp))
        have he : encNg (f :: r) = encN f.cmd (f :: r) 0 [u8of f.cmd, 1, 0, 0] z16 := by unfold encNg; rw [hn]
        have L := ngenc_loop (n := fuel) (f := f) (l := f :: r) rfl (fun m hm => ngR_iff.1 (hok m hm)) hl (f :: r).length fuel 0 [u8of f.cmd, 1, 0, 0] z16 (by omega) (fuel_ge (by omega)) (by simp)
        have hc := hf.cmd
        rw [he, if_neg (by simp; omega), show (f :: r)[0]? = some f from rfl, Option.bind_some, zeros16, Option.bind_some, wu8, u8of_emod' (by omega)]
        exact L
    | succ d ih =>
      intro m i hd hm hb
      obtain ⟨m, rfl⟩ : ∃ k, m = k + 1 := ⟨m - 1, by omega⟩
      have hi : i < l.length := by omega
      rw [List.drop_eq_getElem_cons hi, badP] at hb
      rw [L_ripng_Encode_0_eq, ifd (by omega), if_pos (by omega), Int.toNat_natCast, bind_at hi, ngright_is (g _ (List.getElem_mem hi)), Option.bind_some]
      dsimp only
      cases ho : ngB l[i] with
      | true =>
        rw [if_pos ho] at hb
        have := ih m (i + 1) (by omega) (by omega) hb
        rw [ifnt, w64 (by omega) (by omega)]
        exact this
      | false =>
        rw [if_neg (by rw [ho]; simp)] at hb
        rw [ifnf]
        unfold encNg; rw [hb]; try rfl
  exact main l.length fuel 0 (by omega) (fuel_ge (by omega)) rfl
theorem rngenc_is {l : List Msg} (g : ∀ m ∈ l, GoodG m) (hl : l.length ≤ 1000000) : g_ref12_Encode (l, ()) = some (trip (encNg l), ()) := by
  show h_ref12_Encode fuel (l, ()) = _
  rw [h_ref12_Encode_eq]
  have main : ∀ (d m i : Nat), i + d = l.length → d < m → badP ngB l 0 = badP ngB (l.drop i) i → L_ref12_Encode_0 fuel m l i = some (trip (encNg l), ()) := by
    intro d
    induction d with
    | zero =>
      intro m i hd hm hb
      obtain ⟨m, rfl⟩ : ∃ k, m = k + 1 := ⟨m - 1, by omega⟩
      rw [List.drop_eq_nil_of_le (by omega)] at hb
      have hn : badP ngB l 0 = none := hb
      have hok := badP_none hn
      rw [L_ref12_Encode_0_eq, ifn (by omega)]
      cases l with
      | nil => rfl
      | cons f r =>
        have hf := ngR_iff.1 (hok f (by simp))
        have he : encNg (f :: r) = encN f.cmd (f :: r) 0 [u8of f.cmd, 1, 0, 0] z16 := by unfold encNg; rw [hn]
        have L := rngenc_loop (n := fuel) (f := f) (l := f :: r) rfl (fun m hm => ngR_iff.1 (hok m hm)) hl (f :: r).length fuel 0 [u8of f.cmd, 1, 0, 0] z16 (by omega) (fuel_ge (by omega)) (by simp)
        have hc := hf.cmd
        have r1 : g_ref02_Of (f.cmd, 1, ()) = some (([u8of f.cmd], ()), ()) := by
          rw [show g_ref02_Of (f.cmd, 1, ()) = some (((oput f.cmd 1).1, ()), ()) from rof_is (k := 1) (has64.2 (by omega)) (by omega) (by omega)]
          unfold oput fitsB; rw [if_pos (by rw [decide_eq_true_eq]; omega), be1 (by omega)]
        rw [he, if_neg (by simp; omega), show (f :: r)[0]? = some f from rfl, Option.bind_some, r1, Option.bind_some]
        dsimp only
        rw [if_pos (maxB_of (by simp)), none12_is, Option.bind_some]
        exact L
    | succ d ih =>
      intro m i hd hm hb
      obtain ⟨m, rfl⟩ : ∃ k, m = k + 1 := ⟨m - 1, by omega⟩
      have hi : i < l.length := by omega
      rw [List.drop_eq_getElem_cons hi, badP] at hb
      rw [L_ref12_Encode_0_eq, ifd (by omega), if_pos (by omega), Int.toNat_natCast, bind_at hi, rngright_is (g _ (List.getElem_mem hi)), Option.bind_some]
      dsimp only
      cases ho : ngB l[i] with
      | true =>
        rw [if_pos ho] at hb
        have := ih m (i + 1) (by omega) (by omega) hb
        rw [ifnt, w64 (by omega) (by omega)]
        exact this
      | false =>
        rw [if_neg (by rw [ho]; simp)] at hb
        rw [ifnf]
        unfold encNg; rw [hb]; try rfl
  exact main l.length fuel 0 (by omega) (fuel_ge (by omega)) rfl
end Go.VP
set_option linter.unusedVariables false
set_option linter.unusedSimpArgs false
set_option maxRecDepth 100000
namespace Go.VP
open Go Go.VI
def W32 (n : Int) : Prop := 0 ≤ n ∧ n < 4294967296
def W8 (n : Int) : Prop := 0 ≤ n ∧ n < 256
theorem fitsB4 {n : Int} : fitsB n 4 = true ↔ W32 n := by simp [fitsB, W32]
theorem fitsB1 {n : Int} : fitsB n 1 = true ↔ W8 n := by simp [fitsB, W8]
theorem pf4 {n : Int} (h : IntKind.has .i64 n) : g_octet_Fits (n, 4, ()) = some ((fitsB n 4, ()), ()) := fits_is (k := 4) h (by omega) (by omega)
theorem pf1 {n : Int} (h : IntKind.has .i64 n) : g_octet_Fits (n, 1, ()) = some ((fitsB n 1, ()), ()) := fits_is (k := 1) h (by omega) (by omega)
theorem rf4 {n : Int} : g_ref02_Fits (n, 4, ()) = some ((fitsB n 4, ()), ()) := rfits_is (k := 4) (by omega) (by omega)
theorem rf1 {n : Int} : g_ref02_Fits (n, 1, ()) = some ((fitsB n 1, ()), ()) := rfits_is (k := 1) (by omega) (by omega)
structure RqR (m : Msg) : Prop where
  kind : m.kind = 3
  bare : bareB m = true
  flags : 0 ≤ m.flags ∧ m.flags ≤ 31
  addr : m.addr.length = 4
  orig : m.orig.length = 4
  nonce : W32 m.nonce
  seq : W32 m.seq
  seq2 : W32 m.seq2
  hops : W8 m.hops
  subs : extB m.subs = true
structure RpR (m : Msg) : Prop where
  kind : m.kind = 4
  bare : bareB m = true
  flags : 0 ≤ m.flags ∧ m.flags ≤ 3
  plen : 0 ≤ m.plen ∧ m.plen ≤ 31
  addr : m.addr.length = 4
  orig : m.orig.length = 4
  seq : W32 m.seq
  life : W32 m.interval
  hops : W8 m.hops
  subs : extB m.subs = true
structure AkR (m : Msg) : Prop where
  kind : m.kind = 6
  bare : bareB m = true
  subs : extB m.subs = true
def destB (d : Dest) : Bool := decide (d.addr.length = 4) && fitsB d.seq 4
structure ReR (m : Msg) : Prop where
  kind : m.kind = 5
  bare : bareB m = true
  flags : m.flags = 0 ∨ m.flags = 1
  len : 1 ≤ m.list.length ∧ m.list.length ≤ 255
  list : m.list.all destB = true
  subs : extB m.subs = true
open Classical in
noncomputable def rqB (m : Msg) : Bool := decide (RqR m)
open Classical in
noncomputable def rpB (m : Msg) : Bool := decide (RpR m ∨ AkR m)
open Classical in
noncomputable def reB (m : Msg) : Bool := decide (ReR m)
theorem rqB_iff {m : Msg} : rqB m = true ↔ RqR m := by simp [rqB]
theorem rpB_iff {m : Msg} : rpB m = true ↔ (RpR m ∨ AkR m) := by simp [rpB]
theorem reB_iff {m : Msg} : reB m = true ↔ ReR m := by simp [reB]
theorem b_eq {a b : Bool} (h : a = true ↔ b = true) : a = b := by cases a <;> cases b <;> simp_all
theorem b_no {b : Bool} (h : ¬ b = true) : b = false := by cases b <;> simp_all
structure GoodV (m : Msg) : Prop where
  nonce : IntKind.has .i64 m.nonce
  seq : IntKind.has .i64 m.seq
  seq2 : IntKind.has .i64 m.seq2
  hops : IntKind.has .i64 m.hops
  life : IntKind.has .i64 m.interval
  list : m.list.length ≤ 1000000
  ds : ∀ d ∈ m.list, IntKind.has .i64 d.seq
  subs : FewS m.subs
  subs1 : m.subs.length ≤ 1000000
theorem rq_loop {n k : Nat} {m : Msg} (g : GoodV m) : L_rreq_Right_0 n (k + 4) m [m.nonce, m.seq, m.seq2] 3 0 = some ((fitsB m.nonce 4 && (fitsB m.seq 4 && (fitsB m.seq2 4 && (fitsB m.hops 1 && extB m.subs))), ()), ()) := by
  rw [L_rreq_Right_0_eq, ifd (by decide), if_pos (by decide), show ([m.nonce, m.seq, m.seq2])[(0 : Int).toNat]? = some m.nonce from rfl, Option.bind_some, pf4 g.nonce, Option.bind_some]
  dsimp only
  cases fitsB m.nonce 4 with
  | false => rfl
  | true =>
    rw [ifnt, show IntKind.wrap .i64 ((0 : Int) + 1) = 1 from rfl, L_rreq_Right_0_eq, ifd (by decide), if_pos (by decide), show ([m.nonce, m.seq, m.seq2])[(1 : Int).toNat]? = some m.seq from rfl, Option.bind_some, pf4 g.seq, Option.bind_some]
    dsimp only
    cases fitsB m.seq 4 with
    | false => rfl
    | true =>
      rw [ifnt, show IntKind.wrap .i64 ((1 : Int) + 1) = 2 from rfl, L_rreq_Right_0_eq, ifd (by decide), if_pos (by decide), show ([m.nonce, m.seq, m.seq2])[(2 : Int).toNat]? = some m.seq2 from rfl, Option.bind_some, pf4 g.seq2, Option.bind_some]
      dsimp only
      cases fitsB m.seq2 4 with
      | false => rfl
      | true =>
        rw [ifnt, show IntKind.wrap .i64 ((2 : Int) + 1) = 3 from rfl, L_rreq_Right_0_eq, ifn (by decide), pf1 g.hops, Option.bind_some]
        dsimp only
        cases fitsB m.hops 1 with
        | false => rfl
        | true => rw [ift, eright_is g.subs.1]; rfl
theorem rqB_all {m : Msg} (hk : m.kind = 3) (hb : bareB m = true) (h0 : 0 ≤ m.flags) (h1 : m.flags ≤ 31) (ha : m.addr.length = 4) (ho : m.orig.length = 4) : rqB m = (fitsB m.nonce 4 && (fitsB m.seq 4 && (fitsB m.seq2 4 && (fitsB m.hops 1 && extB m.subs)))) := by
  apply b_eq
  simp only [Bool.and_eq_true, rqB_iff, fitsB4, fitsB1]
  exact ⟨fun h => ⟨h.nonce, h.seq, h.seq2, h.hops, h.subs⟩, fun ⟨a, b, c, d, e⟩ => ⟨hk, hb, ⟨h0, h1⟩, ha, ho, a, b, c, d, e⟩⟩
theorem rqright_is {m : Msg} (g : GoodV m) : g_rreq_Right (m, ()) = some ((rqB m, ()), ()) := by
  show h_rreq_Right fuel _ = _
  have no : ¬ RqR m → (some ((false, ()), ()) : Option ((Bool × Unit) × Unit)) = some ((rqB m, ()), ()) := fun h => by rw [b_no (fun q => h (rqB_iff.1 q))]
  rw [h_rreq_Right_eq]
  refine ne_step (fun q => no (fun h => q h.kind)) (fun hk => ?_)
  rw [bare_is, Option.bind_some]
  refine nb_step (fun q => no (fun h => by have := h.bare; dsimp only at q; rw [q] at this; cases this)) (fun hb => ?_)
  refine dq_step (fun q => no (fun h => by have := h.flags; omega)) (fun h0 => ?_)
  refine dq_step (fun q => no (fun h => by have := h.flags; omega)) (fun h1 => ?_)
  refine ne_step (fun q => no (fun h => by have := h.addr; omega)) (fun ha => ?_)
  refine ne_step (fun q => no (fun h => by have := h.orig; omega)) (fun ho => ?_)
  have hf := fuel_ge (n := 4) (by omega)
  have := rq_loop (n := fuel) (k := fuel - 4) g
  rw [show fuel - 4 + 4 = fuel by omega] at this
  rw [rqB_all hk hb (by omega) (by omega) (by omega) (by omega)]
  exact this
theorem rrqright_is {m : Msg} (g : GoodV m) : g_ref14_Right (m, ()) = some ((rqB m, ()), ()) := by
  have no : ¬ RqR m → (some ((false, ()), ()) : Option ((Bool × Unit) × Unit)) = some ((rqB m, ()), ()) := fun h => by rw [b_no (fun q => h (rqB_iff.1 q))]
  have gl := g.list
  rw [g_ref14_Right_eq]
  refine bq_step (fun hk => ?_) (fun q => no (fun h => q h.kind))
  rw [rbare_is (by omega) g.subs.1, Option.bind_some]
  dsimp only
  cases hb : bareB m with
  | false => exact no (fun h => by have := h.bare; rw [hb] at this; cases this)
  | true =>
    rw [ift]
    refine dq_step' (fun h0 => ?_) (fun q => no (fun h => by have := h.flags; omega))
    refine dq_step' (fun h1 => ?_) (fun q => no (fun h => by have := h.flags; omega))
    rw [rf1, Option.bind_some, rf4, Option.bind_some, rf4, Option.bind_some, rf4, Option.bind_some, reright_is g.subs.1, Option.bind_some]
    dsimp only
    cases c1 : fitsB m.hops 1 with
    | false => exact no (fun h => by have := fitsB1.2 h.hops; rw [c1] at this; cases this)
    | true => cases c2 : fitsB m.nonce 4 with
      | false => exact no (fun h => by have := fitsB4.2 h.nonce; rw [c2] at this; cases this)
      | true => cases c3 : fitsB m.seq 4 with
        | false => exact no (fun h => by have := fitsB4.2 h.seq; rw [c3] at this; cases this)
        | true => cases c4 : fitsB m.seq2 4 with
          | false => exact no (fun h => by have := fitsB4.2 h.seq2; rw [c4] at this; cases this)
          | true =>
            rw [ift, ift, ift, ift]
            refine bq_step (fun ha => ?_) (fun q => no (fun h => by have := h.addr; omega))
            refine bq_step (fun ho => ?_) (fun q => no (fun h => by have := h.orig; omega))
            rw [rqB_all hk hb h0 h1 (by omega) (by omega), c1, c2, c3, c4]
            rfl
theorem rpB_all {m : Msg} (hk : m.kind = 4) (hb : bareB m = true) (hs : extB m.subs = true) (h0 : 0 ≤ m.flags) (h1 : m.flags ≤ 3) (h2 : 0 ≤ m.plen) (h3 : m.plen ≤ 31) (c1 : fitsB m.hops 1 = true) (c2 : fitsB m.seq 4 = true) (c3 : fitsB m.interval 4 = true) (ha : m.addr.length = 4) : rpB m = ((m.orig.length : Int) == 4) := by
  apply b_eq
  simp only [rpB_iff, beq_iff_eq]
  constructor
  · rintro (h | h)
    · have := h.orig; omega
    · have := h.kind; omega
  · intro ho
    exact .inl ⟨hk, hb, ⟨h0, h1⟩, ⟨h2, h3⟩, ha, by omega, fitsB4.1 c2, fitsB4.1 c3, fitsB1.1 c1, hs⟩
theorem rpright_is {m : Msg} (g : GoodV m) : g_rrep_Right (m, ()) = some ((rpB m, ()), ()) := by
  have no : ¬ RpR m → ¬ AkR m → (some ((false, ()), ()) : Option ((Bool × Unit) × Unit)) = some ((rpB m, ()), ()) := fun h h2 => by rw [b_no (fun q => (rpB_iff.1 q).elim h h2)]
  rw [g_rrep_Right_eq, bare_is, Option.bind_some]
  dsimp only
  cases hb : bareB m with
  | false => exact no (fun h => by have := h.bare; rw [hb] at this; cases this) (fun h => by have := h.bare; rw [hb] at this; cases this)
  | true =>
    rw [ifnt, eright_is g.subs.1, Option.bind_some]
    dsimp only
    cases hs : extB m.subs with
    | false => exact no (fun h => by have := h.subs; rw [hs] at this; cases this) (fun h => by have := h.subs; rw [hs] at this; cases this)
    | true =>
      rw [ifnt]
      refine bq_step (fun hk => by rw [rpB_iff.2 (.inr ⟨hk, hb, hs⟩)]) (fun hk6 => ?_)
      have no' : ¬ RpR m → (some ((false, ()), ()) : Option ((Bool × Unit) × Unit)) = some ((rpB m, ()), ()) := fun h => no h (fun q => hk6 q.kind)
      refine bq_step (fun hk => ?_) (fun q => no' (fun h => q h.kind))
      refine dq_step' (fun h0 => ?_) (fun q => no' (fun h => by have := h.flags; omega))
      refine dq_step' (fun h1 => ?_) (fun q => no' (fun h => by have := h.flags; omega))
      refine dq_step' (fun h2 => ?_) (fun q => no' (fun h => by have := h.plen; omega))
      refine dq_step' (fun h3 => ?_) (fun q => no' (fun h => by have := h.plen; omega))
      rw [pf1 g.hops, Option.bind_some, pf4 g.seq, Option.bind_some, pf4 g.life, Option.bind_some]
      dsimp only
      cases c1 : fitsB m.hops 1 with
      | false => exact no' (fun h => by have := fitsB1.2 h.hops; rw [c1] at this; cases this)
      | true => cases c2 : fitsB m.seq 4 with
        | false => exact no' (fun h => by have := fitsB4.2 h.seq; rw [c2] at this; cases this)
        | true => cases c3 : fitsB m.interval 4 with
          | false => exact no' (fun h => by have := fitsB4.2 h.life; rw [c3] at this; cases this)
          | true =>
            rw [ift, ift, ift]
            refine bq_step (fun ha => ?_) (fun q => no' (fun h => by have := h.addr; omega))
            rw [rpB_all hk hb hs h0 (by omega) h2 (by omega) c1 c2 c3 (by omega)]
theorem rrpright_is {m : Msg} (g : GoodV m) : g_ref15_Right (m, ()) = some ((rpB m, ()), ()) := by
  have no : ¬ RpR m → ¬ AkR m → (some ((false, ()), ()) : Option ((Bool × Unit) × Unit)) = some ((rpB m, ()), ()) := fun h h2 => by rw [b_no (fun q => (rpB_iff.1 q).elim h h2)]
  have gl := g.list
  rw [g_ref15_Right_eq, rbare_is (by omega) g.subs.1, Option.bind_some]
  dsimp only
  cases hb : bareB m with
  | false => exact no (fun h => by have := h.bare; rw [hb] at this; cases this) (fun h => by have := h.bare; rw [hb] at this; cases this)
  | true =>
    rw [ifnt, reright_is g.subs.1, Option.bind_some]
    dsimp only
    cases hs : extB m.subs with
    | false => exact no (fun h => by have := h.subs; rw [hs] at this; cases this) (fun h => by have := h.subs; rw [hs] at this; cases this)
    | true =>
      rw [ifnt]
      refine bq_step (fun hk => by rw [rpB_iff.2 (.inr ⟨hk, hb, hs⟩)]) (fun hk6 => ?_)
      have no' : ¬ RpR m → (some ((false, ()), ()) : Option ((Bool × Unit) × Unit)) = some ((rpB m, ()), ()) := fun h => no h (fun q => hk6 q.kind)
      refine bq_step (fun hk => ?_) (fun q => no' (fun h => q h.kind))
      refine dq_step' (fun h0 => ?_) (fun q => no' (fun h => by have := h.flags; omega))
      refine dq_step' (fun h1 => ?_) (fun q => no' (fun h => by have := h.flags; omega))
      refine dq_step' (fun h2 => ?_) (fun q => no' (fun h => by have := h.plen; omega))
      refine dq_step' (fun h3 => ?_) (fun q => no' (fun h => by have := h.plen; omega))
      rw [rf1, Option.bind_some, rf4, Option.bind_some, rf4, Option.bind_some]
      dsimp only
      cases c1 : fitsB m.hops 1 with
      | false => exact no' (fun h => by have := fitsB1.2 h.hops; rw [c1] at this; cases this)
      | true => cases c2 : fitsB m.seq 4 with
        | false => exact no' (fun h => by have := fitsB4.2 h.seq; rw [c2] at this; cases this)
        | true => cases c3 : fitsB m.interval 4 with
          | false => exact no' (fun h => by have := fitsB4.2 h.life; rw [c3] at this; cases this)
          | true =>
            rw [ift, ift, ift]
            refine bq_step (fun ha => ?_) (fun q => no' (fun h => by have := h.addr; omega))
            rw [rpB_all hk hb hs h0 h1 h2 h3 c1 c2 c3 (by omega)]
end Go.VP
set_option linter.unusedVariables false
set_option linter.unusedSimpArgs false
set_option maxRecDepth 100000
namespace Go.VP
open Go Go.VI
theorem re_loop {n : Nat} {m : Msg} (g : GoodV m) : ∀ (d k i : Nat), i + d = m.list.length → d < k → L_rerr_Right_0 n k m i = some (((m.list.drop i).all destB && extB m.subs, ()), ()) := by
  have gl := g.list
  intro d
  induction d with
  | zero =>
    intro k i hd hk
    obtain ⟨k, rfl⟩ : ∃ j, k = j + 1 := ⟨k - 1, by omega⟩
    rw [L_rerr_Right_0_eq, ifn (by omega), List.drop_eq_nil_of_le (by omega), eright_is g.subs.1]; rfl
  | succ d ih =>
    intro k i hd hk
    obtain ⟨k, rfl⟩ : ∃ j, k = j + 1 := ⟨k - 1, by omega⟩
    have hi : i < m.list.length := by omega
    have := ih k (i + 1) (by omega) (by omega)
    rw [show ((i + 1 : Nat) : Int) = (i : Int) + 1 by omega] at this
    rw [L_rerr_Right_0_eq, ifd (by omega), if_pos (by omega), Int.toNat_natCast, bind_at hi, pf4 (g.ds _ (List.getElem_mem hi)), Option.bind_some, w64 (by omega) (by omega), this, List.drop_eq_getElem_cons hi, List.all_cons]
    unfold destB
    refine ne_step (fun q => ?_) (fun q => ?_)
    · rw [decide_eq_false (by omega)]; rfl
    · rw [decide_eq_true (by omega)]
      dsimp only
      cases fitsB m.list[i].seq 4 <;> rfl
theorem rre_loop {n : Nat} {m : Msg} (g : GoodV m) : ∀ (d k i : Nat), i + d = m.list.length → d < k → L_ref16_Right_0 n k m i = some (((m.list.drop i).all destB, ()), ()) := by
  have gl := g.list
  intro d
  induction d with
  | zero =>
    intro k i hd hk
    obtain ⟨k, rfl⟩ : ∃ j, k = j + 1 := ⟨k - 1, by omega⟩
    rw [L_ref16_Right_0_eq, ifn (by omega), List.drop_eq_nil_of_le (by omega)]; rfl
  | succ d ih =>
    intro k i hd hk
    obtain ⟨k, rfl⟩ : ∃ j, k = j + 1 := ⟨k - 1, by omega⟩
    have hi : i < m.list.length := by omega
    have := ih k (i + 1) (by omega) (by omega)
    rw [show ((i + 1 : Nat) : Int) = (i : Int) + 1 by omega] at this
    have hp : 0 ≤ (i : Int) := by omega
    rw [L_ref16_Right_0_eq, ifd (by omega)]
    simp only [if_pos hp, Int.toNat_natCast, bind_at hi, rf4, Option.bind_some]
    rw [w64 (by omega) (by omega), this, List.drop_eq_getElem_cons hi, List.all_cons]
    unfold destB
    refine ne_step (fun q => ?_) (fun q => ?_)
    · rw [decide_eq_false (by omega)]; rfl
    · rw [decide_eq_true (by omega)]
      cases fitsB m.list[i].seq 4 <;> rfl
theorem reB_all {m : Msg} (hk : m.kind = 5) (hb : bareB m = true) (hf : m.flags = 0 ∨ m.flags = 1) (hl : 1 ≤ m.list.length ∧ m.list.length ≤ 255) : reB m = (m.list.all destB && extB m.subs) := by
  apply b_eq
  simp only [Bool.and_eq_true, reB_iff]
  exact ⟨fun h => ⟨h.list, h.subs⟩, fun ⟨a, b⟩ => ⟨hk, hb, hf, hl, a, b⟩⟩
theorem errright_is {m : Msg} (g : GoodV m) : g_rerr_Right (m, ()) = some ((reB m, ()), ()) := by
  show h_rerr_Right fuel _ = _
  have no : ¬ ReR m → (some ((false, ()), ()) : Option ((Bool × Unit) × Unit)) = some ((reB m, ()), ()) := fun h => by rw [b_no (fun q => h (reB_iff.1 q))]
  rw [h_rerr_Right_eq]
  refine ne_step (fun q => no (fun h => q h.kind)) (fun hk => ?_)
  rw [bare_is, Option.bind_some]
  refine nb_step (fun q => no (fun h => by have := h.bare; dsimp only at q; rw [q] at this; cases this)) (fun hb => ?_)
  have tail : (m.flags = 0 ∨ m.flags = 1) → (if ((m.list.length : Int) == 0) = true then some ((false, ()), ()) else (if (decide (255 < (m.list.length : Int))) = true then some ((false, ()), ()) else (L_rerr_Right_0 fuel fuel m 0))) = some ((reB m, ()), ()) := by
    intro hf
    refine bq_step (fun q => no (fun h => by have := h.len; omega)) (fun h0 => ?_)
    refine dq_step (fun q => no (fun h => by have := h.len; omega)) (fun h1 => ?_)
    rw [reB_all hk hb hf (by omega)]
    have := re_loop (n := fuel) g m.list.length fuel 0 (by omega) (fuel_ge (by omega))
    rw [List.drop_zero] at this
    exact this
  refine ne_step (fun q => ?_) (fun q => tail (.inl q))
  exact ne_step (fun q2 => no (fun h => by have := h.flags; omega)) (fun q2 => tail (.inr q2))
theorem rerrright_is {m : Msg} (g : GoodV m) : g_ref16_Right (m, ()) = some ((reB m, ()), ()) := by
  show h_ref16_Right fuel _ = _
  have no : ¬ ReR m → (some ((false, ()), ()) : Option ((Bool × Unit) × Unit)) = some ((reB m, ()), ()) := fun h => by rw [b_no (fun q => h (reB_iff.1 q))]
  have gl := g.list
  rw [h_ref16_Right_eq]
  refine ne_step (fun q => no (fun h => q h.kind)) (fun hk => ?_)
  rw [rbare_is (by omega) g.subs.1, Option.bind_some]
  refine nb_step (fun q => no (fun h => by have := h.bare; dsimp only at q; rw [q] at this; cases this)) (fun hb => ?_)
  refine dq_step (fun q => no (fun h => by have := h.flags; omega)) (fun f0 => ?_)
  refine dq_step (fun q => no (fun h => by have := h.flags; omega)) (fun f1 => ?_)
  refine dq_step (fun q => no (fun h => by have := h.len; omega)) (fun h0 => ?_)
  refine dq_step (fun q => no (fun h => by have := h.len; omega)) (fun h1 => ?_)
  rw [reright_is (l := m.subs) g.subs.1, Option.bind_some]
  have := rre_loop (n := fuel) g m.list.length fuel 0 (by omega) (fuel_ge (by omega))
  rw [List.drop_zero, show ((0 : Nat) : Int) = 0 from rfl] at this
  rw [this, reB_all hk hb (by omega) (by omega)]
  dsimp only
  cases extB m.subs <;> simp
def rqBytes (m : Msg) : Bs := [1, u8of (8 * m.flags), 0, u8of m.hops] ++ (be 4 m.nonce ++ (m.addr ++ (be 4 m.seq ++ (m.orig ++ (be 4 m.seq2 ++ encS m.subs)))))
def rpBytes (m : Msg) : Bs := [2, u8of (64 * m.flags), u8of m.plen, u8of m.hops] ++ (m.addr ++ (be 4 m.seq ++ (m.orig ++ (be 4 m.interval ++ encS m.subs))))
def akBytes (m : Msg) : Bs := [4, 0] ++ encS m.subs
def dests : List Dest → Bs
  | [] => []
  | d :: l => (d.addr ++ be 4 d.seq) ++ dests l
def reBytes (m : Msg) : Bs := [3, u8of (128 * m.flags), 0, u8of m.list.length] ++ (dests m.list ++ encS m.subs)
theorem W32.has {n : Int} (h : W32 n) : IntKind.has .i64 n := has64.2 ⟨by have := h.1; omega, by have := h.2; omega⟩
theorem pp4 {n : Int} (h : W32 n) : g_octet_Put (n, 4, ()) = some ((be 4 n, true, ()), ()) := oput_is (k := 4) h.has (by omega) (by omega) (fitsB4.2 h)
theorem ro4 {n : Int} (h : W32 n) : g_ref02_Of (n, 4, ()) = some ((be 4 n, ()), ()) := by
  have := rof_is (k := 4) h.has (by omega) (by omega)
  rw [oput_of (fitsB4.2 h)] at this
  exact this
theorem word_is {n : Int} (h : W32 n) : g_rreq_word (n, ()) = some ((be 4 n, ()), ()) := by
  rw [g_rreq_word_eq, pp4 h]; rfl
theorem shl_u8 {x : Int} {k : Nat} (hx : 0 ≤ x ∧ x < 65536) (hk : k ≤ 15) : u8of (IntKind.wrap .u8 (ishl .i64 x (k : Int))) = u8of (2 ^ k * x) := by
  rw [ishl_ok hx hk, wu8, u8of_emod']
  exact Int.mul_nonneg (Int.pow_nonneg (by decide)) hx.1
theorem enc_len {m : Msg} (g : GoodV m) : (encS m.subs).length ≤ 302000000 := by
  have h := sumN_rng g.subs
  have := encS_length m.subs
  have := g.subs1
  omega
theorem u8x {x : Int} (h : 0 ≤ x) : u8of (IntKind.wrap .u8 x) = u8of x := by rw [wu8, u8of_emod' h]
noncomputable def rqPut (m : Msg) : Bs × Bool := if rqB m = true then (rqBytes m, true) else ([], false)
theorem rqput_is {m : Msg} (g : GoodV m) : g_rreq_Put (m, ()) = some (((rqPut m).1, (rqPut m).2, ()), ()) := by
  have hl := enc_len g
  rw [g_rreq_Put_eq, rqright_is g, Option.bind_some]
  unfold rqPut
  dsimp only
  cases hr : rqB m with
  | false => rfl
  | true =>
    have h := rqB_iff.1 hr
    have ha := h.addr
    have ho := h.orig
    have b4 : ∀ n, (be 4 n).length = 4 := be_length 4
    rw [ifnt, ift, eput_is g.subs g.subs1, Option.bind_some, putE_ok h.subs, word_is h.nonce, Option.bind_some, word_is h.seq, Option.bind_some, word_is h.seq2, Option.bind_some]
    dsimp only
    rw [show ((3 : Int)) = ((3 : Nat) : Int) from rfl, shl_u8 (by have := h.flags; omega) (by omega), u8x h.hops.1]
    repeat rw [if_pos (maxB_of (by simp only [List.length_append, List.length_cons, List.length_nil, b4, ha, ho]; omega))]
    unfold rqBytes
    simp only [List.append_assoc]
    rfl
theorem rrqput_is {m : Msg} (g : GoodV m) : g_ref14_Put (m, ()) = some (((rqPut m).1, (rqPut m).2, ()), ()) := by
  have hl := enc_len g
  rw [g_ref14_Put_eq, rrqright_is g, Option.bind_some]
  unfold rqPut
  dsimp only
  cases hr : rqB m with
  | false => rfl
  | true =>
    have h := rqB_iff.1 hr
    have ha := h.addr
    have ho := h.orig
    have hf := h.flags
    have b4 : ∀ n, (be 4 n).length = 4 := be_length 4
    rw [ifnt, ift, reput_is g.subs g.subs1, Option.bind_some, putE_ok h.subs, ro4 h.nonce, Option.bind_some, ro4 h.seq, Option.bind_some, ro4 h.seq2, Option.bind_some]
    dsimp only
    rw [w64 (by omega) (by omega), u8x (by omega), u8x h.hops.1]
    repeat rw [if_pos (maxB_of (by simp only [List.length_append, List.length_cons, List.length_nil, b4, ha, ho]; omega))]
    unfold rqBytes
    simp only [List.append_assoc]
    rfl
noncomputable def rpPut (m : Msg) : Bs × Bool := if rpB m = true then (if m.kind = 6 then akBytes m else rpBytes m, true) else ([], false)
theorem rpput_is {m : Msg} (g : GoodV m) : g_rrep_Put (m, ()) = some (((rpPut m).1, (rpPut m).2, ()), ()) := by
  have hl := enc_len g
  rw [g_rrep_Put_eq, rpright_is g, Option.bind_some]
  unfold rpPut
  dsimp only
  cases hr : rpB m with
  | false => rfl
  | true =>
    have h := rpB_iff.1 hr
    have hs : extB m.subs = true := h.elim (fun h => h.subs) (fun h => h.subs)
    have b4 : ∀ n, (be 4 n).length = 4 := be_length 4
    rw [ifnt, ift, eput_is g.subs g.subs1, Option.bind_some, putE_ok hs]
    dsimp only
    refine bq_step (fun hk => ?_) (fun hk => ?_)
    · rw [if_pos hk, if_pos (maxB_of (by omega))]; rfl
    · have h := h.resolve_right (fun q => hk q.kind)
      have ha := h.addr
      have ho := h.orig
      rw [if_neg hk, pp4 h.seq, Option.bind_some, pp4 h.life, Option.bind_some]
      dsimp only
      rw [show ((6 : Int)) = ((6 : Nat) : Int) from rfl, shl_u8 (by have := h.flags; omega) (by omega), u8x h.hops.1, u8x h.plen.1]
      repeat rw [if_pos (maxB_of (by simp only [List.length_append, List.length_cons, List.length_nil, b4, ha, ho]; omega))]
      unfold rpBytes
      simp only [List.append_assoc]
      rfl
theorem rrpput_is {m : Msg} (g : GoodV m) : g_ref15_Put (m, ()) = some (((rpPut m).1, (rpPut m).2, ()), ()) := by
  have hl := enc_len g
  rw [g_ref15_Put_eq, rrpright_is g, Option.bind_some]
  unfold rpPut
  dsimp only
  cases hr : rpB m with
  | false => rfl
  | true =>
    have h := rpB_iff.1 hr
    have hs : extB m.subs = true := h.elim (fun h => h.subs) (fun h => h.subs)
    have b4 : ∀ n, (be 4 n).length = 4 := be_length 4
    rw [ifnt, ift, reput_is g.subs g.subs1, Option.bind_some, putE_ok hs]
    dsimp only
    refine bq_step (fun hk => ?_) (fun hk => ?_)
    · rw [if_pos hk, if_pos (maxB_of (by omega))]; rfl
    · have h := h.resolve_right (fun q => hk q.kind)
      have ha := h.addr
      have ho := h.orig
      have hf := h.flags
      rw [if_neg hk, ro4 h.seq, Option.bind_some, ro4 h.life, Option.bind_some]
      dsimp only
      rw [w64 (by omega) (by omega), u8x (by omega), u8x h.hops.1, u8x h.plen.1]
      repeat rw [if_pos (maxB_of (by simp only [List.length_append, List.length_cons, List.length_nil, b4, ha, ho]; omega))]
      unfold rpBytes
      simp only [List.append_assoc]
      rfl
theorem destB_ok {d : Dest} (h : destB d = true) : d.addr.length = 4 ∧ W32 d.seq := by
  unfold destB at h
  simp only [Bool.and_eq_true, decide_eq_true_eq, fitsB4] at h
  exact h
noncomputable def rePut (m : Msg) : Bs × Bool := if reB m = true then (reBytes m, true) else ([], false)
theorem errput_loop {n : Nat} {m : Msg} (g : GoodV m) (h : ReR m) : ∀ (d k i : Nat) (acc : Bs), i + d = m.list.length → d < k → acc.length ≤ 4 + 8 * i → L_rerr_Put_0 n k m acc i = some ((acc ++ (dests (m.list.drop i) ++ encS m.subs), true, ()), ()) := by
  have gl := g.list
  have hl := enc_len g
  have hle := h.len
  intro d
  induction d with
  | zero =>
    intro k i acc hd hk ha
    obtain ⟨k, rfl⟩ : ∃ j, k = j + 1 := ⟨k - 1, by omega⟩
    rw [L_rerr_Put_0_eq, ifn (by omega), List.drop_eq_nil_of_le (by omega), eput_is g.subs g.subs1, Option.bind_some, putE_ok h.subs]
    dsimp only
    rw [if_pos (maxB_of (by omega))]; rfl
  | succ d ih =>
    intro k i acc hd hk ha
    obtain ⟨k, rfl⟩ : ∃ j, k = j + 1 := ⟨k - 1, by omega⟩
    have hi : i < m.list.length := by omega
    obtain ⟨h1, h2⟩ := destB_ok (List.all_eq_true.1 h.list _ (List.getElem_mem hi))
    have b4 : ∀ n, (be 4 n).length = 4 := be_length 4
    have := ih k (i + 1) (acc ++ m.list[i].addr ++ be 4 m.list[i].seq) (by omega) (by omega) (by simp only [List.length_append, h1, b4]; omega)
    rw [show ((i + 1 : Nat) : Int) = (i : Int) + 1 by omega] at this
    rw [L_rerr_Put_0_eq, ifd (by omega), if_pos (by omega), Int.toNat_natCast, bind_at hi, pp4 h2, Option.bind_some]
    dsimp only
    rw [if_pos (roomB_of (by omega)), if_pos (roomB_of (by rw [List.length_append, b4]; omega)), w64 (by omega) (by omega), this, List.drop_eq_getElem_cons hi, dests]
    simp only [List.append_assoc]
theorem reput2_is {m : Msg} (g : GoodV m) : g_rerr_Put (m, ()) = some (((rePut m).1, (rePut m).2, ()), ()) := by
  show h_rerr_Put fuel _ = _
  rw [h_rerr_Put_eq, errright_is g, Option.bind_some]
  unfold rePut
  dsimp only
  cases hr : reB m with
  | false => rfl
  | true =>
    have h := reB_iff.1 hr
    have hle := h.len
    have := errput_loop (n := fuel) g h m.list.length fuel 0 [3, u8of (128 * m.flags), 0, u8of m.list.length] (by omega) (fuel_ge (by omega)) (by simp)
    rw [List.drop_zero] at this
    rw [ifnt, ift, show ((7 : Int)) = ((7 : Nat) : Int) from rfl, shl_u8 (by have := h.flags; omega) (by omega), u8x (by omega)]
    exact this
theorem rreput_loop {n : Nat} {m : Msg} (g : GoodV m) (h : ReR m) : ∀ (d k i : Nat) (acc : Bs), i + d = m.list.length → d < k → acc.length ≤ 4 + 8 * i → L_ref16_Put_0 n k m acc i = some ((acc ++ (dests (m.list.drop i) ++ encS m.subs), true, ()), ()) := by
  have gl := g.list
  have hl := enc_len g
  have hle := h.len
  intro d
  induction d with
  | zero =>
    intro k i acc hd hk ha
    obtain ⟨k, rfl⟩ : ∃ j, k = j + 1 := ⟨k - 1, by omega⟩
    rw [L_ref16_Put_0_eq, ifn (by omega), List.drop_eq_nil_of_le (by omega), reput_is g.subs g.subs1, Option.bind_some, putE_ok h.subs]
    dsimp only
    rw [if_pos (maxB_of (by omega))]; rfl
  | succ d ih =>
    intro k i acc hd hk ha
    obtain ⟨k, rfl⟩ : ∃ j, k = j + 1 := ⟨k - 1, by omega⟩
    have hi : i < m.list.length := by omega
    obtain ⟨h1, h2⟩ := destB_ok (List.all_eq_true.1 h.list _ (List.getElem_mem hi))
    have b4 : ∀ n, (be 4 n).length = 4 := be_length 4
    have := ih k (i + 1) (acc ++ m.list[i].addr ++ be 4 m.list[i].seq) (by omega) (by omega) (by simp only [List.length_append, h1, b4]; omega)
    rw [show ((i + 1 : Nat) : Int) = (i : Int) + 1 by omega] at this
    rw [L_ref16_Put_0_eq, ifd (by omega), if_pos (by omega), Int.toNat_natCast, bind_at hi, if_pos (maxB_of (by omega)), if_pos (by omega), bind_at hi, ro4 h2, Option.bind_some]
    dsimp only
    rw [if_pos (maxB_of (by rw [List.length_append, b4]; omega)), w64 (by omega) (by omega), this, List.drop_eq_getElem_cons hi, dests]
    simp only [List.append_assoc]
theorem rreput2_is {m : Msg} (g : GoodV m) : g_ref16_Put (m, ()) = some (((rePut m).1, (rePut m).2, ()), ()) := by
  show h_ref16_Put fuel _ = _
  rw [h_ref16_Put_eq, rerrright_is g, Option.bind_some]
  unfold rePut
  dsimp only
  cases hr : reB m with
  | false => rfl
  | true =>
    have h := reB_iff.1 hr
    have hle := h.len
    have hf := h.flags
    have := rreput_loop (n := fuel) g h m.list.length fuel 0 [3, u8of (128 * m.flags), 0, u8of m.list.length] (by omega) (fuel_ge (by omega)) (by simp)
    rw [List.drop_zero] at this
    rw [ifnt, ift, w64 (by omega) (by omega), u8x (by omega), u8x (by omega), if_pos (maxB_of (by simp))]
    exact this
end Go.VP
set_option linter.unusedVariables false
set_option linter.unusedSimpArgs false
set_option maxRecDepth 100000
namespace Go.VP
open Go Go.VI
noncomputable def avB (m : Msg) : Bool := rqB m || (rpB m || reB m)
noncomputable def avPut (m : Msg) : Bs := if rqB m = true then rqBytes m else if rpB m = true then (if m.kind = 6 then akBytes m else rpBytes m) else if reB m = true then reBytes m else []
noncomputable def encAv (l : List Msg) : Bs × Int × Int := match badP avB l 0 with
  | some i => ([], (i : Int), 1)
  | none => match l with
    | [] => ([], 0, 8)
    | [m] => if 65535 < (avPut m).length then ([], 0, 10) else (avPut m, 0, 0)
    | _ => ([], 1, 8)
theorem avright_is {m : Msg} (g : GoodV m) : g_aodv_Right (m, ()) = some ((avB m, ()), ()) := by
  rw [g_aodv_Right_eq, rqright_is g, Option.bind_some]
  unfold avB
  dsimp only
  cases rqB m with
  | true => rfl
  | false =>
    rw [iff_, rpright_is g, Option.bind_some]
    dsimp only
    cases rpB m with
    | true => rfl
    | false => rw [iff_, errright_is g]; try rfl
theorem avenc_is {l : List Msg} (g : ∀ m ∈ l, GoodV m) (hl : l.length ≤ 1000000) : g_aodv_Encode (l, ()) = some (trip (encAv l), ()) := by
  show h_aodv_Encode fuel (l, ()) = _
  rw [h_aodv_Encode_eq]
  have main : ∀ (d m i : Nat), i + d = l.length → d < m → badP avB l 0 = badP avB (l.drop i) i → L_aodv_Encode_0 fuel m l i = some (trip (encAv l), ()) := by
    intro d
    induction d with
    | zero =>
      intro m i hd hm hb
      obtain ⟨m, rfl⟩ : ∃ k, m = k + 1 := ⟨m - 1, by omega⟩
      rw [List.drop_eq_nil_of_le (by omega)] at hb
      have hn : badP avB l 0 = none := hb
      have hok := badP_none hn
      rw [L_aodv_Encode_0_eq, ifn (by omega)]
      match l, g, hn, hok with
      | [], _, _, _ => rfl
      | x :: y :: r, _, hn, _ =>
        have he : encAv (x :: y :: r) = ([], 1, 8) := by unfold encAv; rw [hn]
        rw [he, if_neg (by simp; omega), ifd (by simp; omega)]
      | [x], g, hn, hok =>
        have g := g x (by simp)
        have hx := hok x (by simp)
        have he : encAv [x] = if 65535 < (avPut x).length then ([], 0, 10) else (avPut x, 0, 0) := by unfold encAv; rw [hn]
        have fin : ∀ s : Bs, s = avPut x → (if (decide (65535 < (s.length : Int))) = true then some ((([] : Bs), 0, 10, ()), ()) else some ((s, 0, 0, ()), ())) = some (trip (encAv [x]), ()) := by
          intro s hs
          rw [he, ← hs]
          refine dq_step (fun h => ?_) (fun h => ?_)
          · rw [if_pos (by omega)]
          · rw [if_neg (by omega)]
        rw [if_neg (by simp), ifn (by simp), show [x][0]? = some x from rfl]
        simp only [Option.bind_some]
        rw [rqput_is g, Option.bind_some]
        dsimp only
        unfold rqPut
        cases h1 : rqB x with
        | true =>
          simp only [if_true]
          rw [ifnt]
          exact fin _ (by unfold avPut; rw [if_pos h1])
        | false =>
          rw [iff_, ifnf, rpput_is g, Option.bind_some]
          dsimp only
          unfold rpPut
          cases h2 : rpB x with
          | true =>
            simp only [if_true]
            rw [ifnt]
            exact fin _ (by unfold avPut; rw [if_neg (show ¬ rqB x = true by rw [h1]; simp), if_pos h2])
          | false =>
            rw [iff_, ifnf, reput2_is g, Option.bind_some]
            have h3 : reB x = true := by unfold avB at hx; rw [h1, h2] at hx; simpa using hx
            refine fin _ ?_
            unfold rePut avPut
            rw [if_pos h3, if_neg (show ¬ rqB x = true by rw [h1]; simp), if_neg (show ¬ rpB x = true by rw [h2]; simp), if_pos h3]
    | succ d ih =>
      intro m i hd hm hb
      obtain ⟨m, rfl⟩ : ∃ k, m = k + 1 := ⟨m - 1, by omega⟩
      have hi : i < l.length := by omega
      rw [List.drop_eq_getElem_cons hi, badP] at hb
      rw [L_aodv_Encode_0_eq, ifd (by omega), if_pos (by omega), Int.toNat_natCast, bind_at hi, avright_is (g _ (List.getElem_mem hi)), Option.bind_some]
      dsimp only
      cases ho : avB l[i] with
      | true =>
        rw [if_pos ho] at hb
        have := ih m (i + 1) (by omega) (by omega) hb
        rw [ifnt, w64 (by omega) (by omega)]
        exact this
      | false =>
        rw [if_neg (by rw [ho]; simp)] at hb
        rw [ifnf]
        unfold encAv; rw [hb]
  exact main l.length fuel 0 (by omega) (fuel_ge (by omega)) rfl
theorem ravright_is {m : Msg} (g : GoodV m) : g_ref17_Right (m, ()) = some ((avB m, ()), ()) := by
  rw [g_ref17_Right_eq, rrqright_is g, Option.bind_some]
  unfold avB
  dsimp only
  cases rqB m with
  | true => rfl
  | false =>
    rw [iff_, rrpright_is g, Option.bind_some]
    dsimp only
    cases rpB m with
    | true => rfl
    | false => rw [iff_, rerrright_is g]; try rfl
theorem ravenc_is {l : List Msg} (g : ∀ m ∈ l, GoodV m) (hl : l.length ≤ 1000000) : g_ref17_Encode (l, ()) = some (trip (encAv l), ()) := by
  show h_ref17_Encode fuel (l, ()) = _
  rw [h_ref17_Encode_eq]
  have main : ∀ (d m i : Nat), i + d = l.length → d < m → badP avB l 0 = badP avB (l.drop i) i → L_ref17_Encode_0 fuel m l i = some (trip (encAv l), ()) := by
    intro d
    induction d with
    | zero =>
      intro m i hd hm hb
      obtain ⟨m, rfl⟩ : ∃ k, m = k + 1 := ⟨m - 1, by omega⟩
      rw [List.drop_eq_nil_of_le (by omega)] at hb
      have hn : badP avB l 0 = none := hb
      have hok := badP_none hn
      rw [L_ref17_Encode_0_eq, ifn (by omega)]
      match l, g, hn, hok with
      | [], _, _, _ => rfl
      | x :: y :: r, _, hn, _ =>
        have he : encAv (x :: y :: r) = ([], 1, 8) := by unfold encAv; rw [hn]
        rw [he, if_neg (by simp; omega), ifd (by simp; omega)]
      | [x], g, hn, hok =>
        have g := g x (by simp)
        have hx := hok x (by simp)
        have he : encAv [x] = if 65535 < (avPut x).length then ([], 0, 10) else (avPut x, 0, 0) := by unfold encAv; rw [hn]
        have fin : ∀ s : Bs, s = avPut x → (if (decide (65535 < (s.length : Int))) = true then some ((([] : Bs), 0, 10, ()), ()) else some ((s, 0, 0, ()), ())) = some (trip (encAv [x]), ()) := by
          intro s hs
          rw [he, ← hs]
          refine dq_step (fun h => ?_) (fun h => ?_)
          · rw [if_pos (by omega)]
          · rw [if_neg (by omega)]
        rw [if_neg (by simp), ifn (by simp), show [x][0]? = some x from rfl]
        simp only [Option.bind_some]
        rw [rrqput_is g, Option.bind_some]
        dsimp only
        unfold rqPut
        cases h1 : rqB x with
        | true =>
          simp only [if_true]
          rw [ifnt]
          exact fin _ (by unfold avPut; rw [if_pos h1])
        | false =>
          rw [iff_, ifnf, rrpput_is g, Option.bind_some]
          dsimp only
          unfold rpPut
          cases h2 : rpB x with
          | true =>
            simp only [if_true]
            rw [ifnt]
            exact fin _ (by unfold avPut; rw [if_neg (show ¬ rqB x = true by rw [h1]; simp), if_pos h2])
          | false =>
            rw [iff_, ifnf, rreput2_is g, Option.bind_some]
            have h3 : reB x = true := by unfold avB at hx; rw [h1, h2] at hx; simpa using hx
            refine fin _ ?_
            unfold rePut avPut
            rw [if_pos h3, if_neg (show ¬ rqB x = true by rw [h1]; simp), if_neg (show ¬ rpB x = true by rw [h2]; simp), if_pos h3]
    | succ d ih =>
      intro m i hd hm hb
      obtain ⟨m, rfl⟩ : ∃ k, m = k + 1 := ⟨m - 1, by omega⟩
      have hi : i < l.length := by omega
      rw [List.drop_eq_getElem_cons hi, badP] at hb
      rw [L_ref17_Encode_0_eq, ifd (by omega), if_pos (by omega), Int.toNat_natCast, bind_at hi, ravright_is (g _ (List.getElem_mem hi)), Option.bind_some]
      dsimp only
      cases ho : avB l[i] with
      | true =>
        rw [if_pos ho] at hb
        have := ih m (i + 1) (by omega) (by omega) hb
        rw [ifnt, w64 (by omega) (by omega)]
        exact this
      | false =>
        rw [if_neg (by rw [ho]; simp)] at hb
        rw [ifnf]
        unfold encAv; rw [hb]
  exact main l.length fuel 0 (by omega) (fuel_ge (by omega)) rfl
end Go.VP
set_option linter.unusedVariables false
set_option linter.unusedSimpArgs false
set_option maxRecDepth 100000
namespace Go.VP
open Go Go.VI
theorem AllE.fewS {l : List Sub} (h : AllE l) (hl : l.length ≤ 1000000) : FewS l := ⟨by omega, fun y hy => by have := (h y hy).2.2; omega⟩
end Go.VP
set_option linter.unusedVariables false
set_option linter.unusedSimpArgs false
set_option maxRecDepth 100000
namespace Go.VP
open Go Go.VI
structure GoodQ (m : Msg) : Prop where
  rip : RM m
  ng : GoodG m
  av : GoodV m
  lean : GoodL m
theorem goodQ {m : Msg} (g : Good_api_Msg m) (h : Few m) : GoodQ m := by
  have hl := h.lite
  have g0 := g
  obtain ⟨g1, g2, g3, g4, g5, g6, g7, g8, g9, g10, g11, g12, g13, g14, g15, g16, g17, g18, g19, g20, g21, g22, g23, _⟩ := g
  have h1 := hl.list
  have h2 := hl.subs
  exact ⟨goodRM g0 h, ⟨g9, g8, g2, by omega, by omega⟩, ⟨g18, g13, g14, g17, g15, by omega, fun d hd => (g22.2 d hd).2.1, hl.fewS, by omega⟩, goodL g0 hl⟩
open Classical in
noncomputable def rightP (p : Int) (m : Msg) : Bool := if p = 1 then rightR m else if p = 2 then ngB m else if p = 3 then avB m else if p = 4 then leanB m else false
end Go.VP
set_option linter.unusedVariables false
set_option linter.unusedSimpArgs false
set_option maxRecDepth 100000
namespace Go.VP
open Go Go.VI
noncomputable def encP (p : Int) (l : List Msg) : Bs × Int × Int := if p = 1 then encR l else if p = 2 then encNg l else if p = 3 then encAv l else if p = 4 then encO l else ([], 0, 1)
def GoodP (p : Int) (m : Msg) : Prop := (p = 1 → RM m) ∧ (p = 2 → GoodG m) ∧ (p = 3 → GoodV m) ∧ (p = 4 → GoodL m)
theorem GoodQ.p {m : Msg} (g : GoodQ m) (p : Int) : GoodP p m := ⟨fun _ => g.rip, fun _ => g.ng, fun _ => g.av, fun _ => g.lean⟩
theorem sright_p {p : Int} {m : Msg} (g : GoodP p m) : g_suite_Right (p, m, ()) = some ((rightP p m, ()), ()) := by
  rw [g_suite_Right_eq]
  unfold rightP
  refine bq_step (fun h => by rw [if_pos h, ripRight_is (g.1 h)]; rfl) (fun h1 => ?_)
  rw [if_neg h1]
  refine bq_step (fun h => by rw [if_pos h, ngright_is (g.2.1 h)]; rfl) (fun h2 => ?_)
  rw [if_neg h2]
  refine bq_step (fun h => by rw [if_pos h, avright_is (g.2.2.1 h)]; rfl) (fun h3 => ?_)
  rw [if_neg h3]
  refine bq_step (fun h => by rw [if_pos h, lright_is (g.2.2.2 h)]; rfl) (fun h4 => ?_)
  rw [if_neg h4]
theorem rsright_p {p : Int} {m : Msg} (g : GoodP p m) : g_ref26_Right (p, m, ()) = some ((rightP p m, ()), ()) := by
  rw [g_ref26_Right_eq]
  unfold rightP
  refine bq_step (fun h => by rw [if_pos h, rripRight_is (g.1 h)]; rfl) (fun h1 => ?_)
  rw [if_neg h1]
  refine bq_step (fun h => by rw [if_pos h, rngright_is (g.2.1 h)]; rfl) (fun h2 => ?_)
  rw [if_neg h2]
  refine bq_step (fun h => by rw [if_pos h, ravright_is (g.2.2.1 h)]; rfl) (fun h3 => ?_)
  rw [if_neg h3]
  refine bq_step (fun h => by rw [if_pos h, rlright_is (g.2.2.2 h)]; rfl) (fun h4 => ?_)
  rw [if_neg h4]
theorem senc_is {p : Int} {l : List Msg} (g : ∀ m ∈ l, GoodP p m) (hl : l.length ≤ 100000) (h1 : p = 1 → l.length ≤ 1000) : g_suite_Encode (p, l, ()) = some (trip (encP p l), ()) := by
  rw [g_suite_Encode_eq]
  unfold encP
  refine bq_step (fun h => by rw [if_pos h, enc_is (fun m hm => (g m hm).1 h) (h1 h)]; rfl) (fun h1 => ?_)
  rw [if_neg h1]
  refine bq_step (fun h => by rw [if_pos h, ngenc_is (fun m hm => (g m hm).2.1 h) (by omega)]; rfl) (fun h2 => ?_)
  rw [if_neg h2]
  refine bq_step (fun h => by rw [if_pos h, avenc_is (fun m hm => (g m hm).2.2.1 h) (by omega)]; rfl) (fun h3 => ?_)
  rw [if_neg h3]
  refine bq_step (fun h => by rw [if_pos h, oenc_is hl (fun m hm => (g m hm).2.2.2 h)]; rfl) (fun h4 => ?_)
  rw [if_neg h4]
theorem rsenc_is {p : Int} {l : List Msg} (g : ∀ m ∈ l, GoodP p m) (hl : l.length ≤ 100000) (h1 : p = 1 → l.length ≤ 1000) : g_ref26_Encode (p, l, ()) = some (trip (encP p l), ()) := by
  rw [g_ref26_Encode_eq]
  unfold encP
  refine bq_step (fun h => by rw [if_pos h, renc_is (fun m hm => (g m hm).1 h) (h1 h)]; rfl) (fun h1 => ?_)
  rw [if_neg h1]
  refine bq_step (fun h => by rw [if_pos h, rngenc_is (fun m hm => (g m hm).2.1 h) (by omega)]; rfl) (fun h2 => ?_)
  rw [if_neg h2]
  refine bq_step (fun h => by rw [if_pos h, ravenc_is (fun m hm => (g m hm).2.2.1 h) (by omega)]; rfl) (fun h3 => ?_)
  rw [if_neg h3]
  refine bq_step (fun h => by rw [if_pos h, roenc_is hl (fun m hm => (g m hm).2.2.2 h)]; rfl) (fun h4 => ?_)
  rw [if_neg h4]
end Go.VP
set_option linter.unusedVariables false
set_option linter.unusedSimpArgs false
set_option maxRecDepth 100000
namespace Go.VP
open Go Go.VI
noncomputable def fitsP (p most : Int) (l : List Msg) : Bool := decide ((encP p l).2.2 = 0 ∧ ((encP p l).1.length : Int) ≤ most)
theorem dat_is {p most : Int} {l : List Msg} (g : ∀ m ∈ l, GoodP p m) (hl : l.length ≤ 1000) : g_pack_datagram (p, l, most, ()) = some (((encP p l).1, fitsP p most l, ()), ()) := by
  rw [g_pack_datagram_eq, senc_is g (by omega) (fun _ => hl), Option.bind_some]
  unfold fitsP
  refine bq_step (fun q => ?_) (fun q => ?_)
  · by_cases h : ((encP p l).1.length : Int) ≤ most
    · rw [decide_eq_true (show (encP p l).2.2 = 0 ∧ _ from ⟨q, h⟩)]; dsimp only [trip]; rw [decide_eq_true h]
    · rw [decide_eq_false (show ¬ ((encP p l).2.2 = 0 ∧ _) from fun c => h c.2)]; dsimp only [trip]; rw [decide_eq_false h]
  · rw [decide_eq_false (show ¬ ((encP p l).2.2 = 0 ∧ _) from fun c => q c.1)]
theorem pfits_is {p most : Int} {l : List Msg} (g : ∀ m ∈ l, GoodP p m) (hl : l.length ≤ 1000) : g_pack_Fits (p, l, most, ()) = some ((fitsP p most l, ()), ()) := by
  rw [g_pack_Fits_eq, dat_is g hl]; rfl
noncomputable def cnt (p most : Int) (l : List Msg) : Nat → Nat → Nat
  | 0, n => n
  | k + 1, n => if fitsP p most (l.take (n + 1)) = true then cnt p most l k (n + 1) else n
noncomputable def cntP (p most : Int) (l : List Msg) : Nat := cnt p most l l.length 0
theorem cnt_rng {p most : Int} {l : List Msg} : ∀ (k n : Nat), n ≤ cnt p most l k n ∧ cnt p most l k n ≤ n + k
  | 0, n => ⟨Nat.le_refl _, Nat.le_refl _⟩
  | k + 1, n => by
    unfold cnt
    split
    · have := cnt_rng (p := p) (most := most) (l := l) k (n + 1); omega
    · omega
theorem cnt_fits {p most : Int} {l : List Msg} : ∀ (k n : Nat), n < cnt p most l k n → fitsP p most (l.take (cnt p most l k n)) = true
  | 0, n, h => by unfold cnt at h; omega
  | k + 1, n, h => by
    unfold cnt at h ⊢
    split at h
    · rename_i hf
      rw [if_pos hf]
      by_cases q : n + 1 < cnt p most l k (n + 1)
      · exact cnt_fits k (n + 1) q
      · have := cnt_rng (p := p) (most := most) (l := l) k (n + 1)
        rw [show cnt p most l k (n + 1) = n + 1 by omega]; exact hf
    · omega
noncomputable def chunks (p most : Int) : Nat → List Msg → List (List Msg)
  | 0, _ => []
  | k + 1, l => if l = [] then [] else l.take (cntP p most l) :: chunks p most k (l.drop (cntP p most l))
noncomputable def packD (p most : Int) (l : List Msg) : List Bs := (chunks p most l.length l).map fun c => (encP p c).1
noncomputable def lastD (p : Int) (l : List Msg) (n : Nat) : Bs := if n = 0 then [] else (encP p (l.take n)).1
theorem strBo : bo_string ≤ 100000 := Nat.le_of_ble_eq_true (by kernel_rfl)
theorem pack1_loop {n m0 : Nat} {p most : Int} {l : List Msg} {acc : List Bs} (hl : l.length ≤ 1000) (ha : acc.length ≤ 1000) (g : ∀ m ∈ l, GoodP p m) : ∀ (d k i : Nat), i + d = l.length → d < k →
    L_pack_Pack_1 n m0 k p l most acc (lastD p l i) i = L_pack_Pack_0 n m0 p most (l.drop (cnt p most l d i)) (acc ++ [lastD p l (cnt p most l d i)]) := by
  have fin : ∀ (i : Nat), i ≤ l.length → (if roomB ((acc.length + [lastD p l i].length) * bo_string) = true then (if 0 ≤ (i : Int) ∧ (i : Int) ≤ (l.length : Int) then (L_pack_Pack_0 n m0 p most (l.drop (i : Int).toNat) (acc ++ [lastD p l i])) else none) else none) = L_pack_Pack_0 n m0 p most (l.drop i) (acc ++ [lastD p l i]) := fun i hi => by
    rw [if_pos (roomB_of (Nat.le_trans (Nat.mul_le_mul (show acc.length + [lastD p l i].length ≤ 1001 by simp; omega) strBo) (by decide))), if_pos (by omega), Int.toNat_natCast]
  intro d
  induction d with
  | zero =>
    intro k i h hk
    obtain ⟨k, rfl⟩ : ∃ j, k = j + 1 := ⟨k - 1, by omega⟩
    rw [L_pack_Pack_1_eq, ifn (by omega), cnt]
    exact fin i (by omega)
  | succ d ih =>
    intro k i h hk
    obtain ⟨k, rfl⟩ : ∃ j, k = j + 1 := ⟨k - 1, by omega⟩
    have hg : ∀ m ∈ l.take (i + 1), GoodP p m := fun m hm => g m (List.mem_of_mem_take hm)
    rw [L_pack_Pack_1_eq, ifd (by omega), w64 (x := (i : Int) + 1) (by omega) (by omega), if_pos (by omega), show ((i : Int) + 1).toNat = i + 1 by omega, dat_is hg (by rw [List.length_take]; omega), Option.bind_some, cnt]
    dsimp only
    cases hf : fitsP p most (l.take (i + 1)) with
    | false =>
      rw [ifnf, iff_]
      exact fin i (by omega)
    | true =>
      rw [ifnt, ift]
      have := ih k (i + 1) (by omega) (by omega)
      rw [show ((i + 1 : Nat) : Int) = (i : Int) + 1 by omega, show lastD p l (i + 1) = (encP p (l.take (i + 1))).1 by unfold lastD; rw [if_neg (by omega)]] at this
      exact this
theorem cntP_pos {p most : Int} {m : Msg} {r : List Msg} (h : fitsP p most [m] = true) : 1 ≤ cntP p most (m :: r) := by
  unfold cntP
  rw [List.length_cons, cnt]
  rw [if_pos (by simpa using h)]
  exact (cnt_rng _ _).1
theorem cntP_le {p most : Int} {l : List Msg} : cntP p most l ≤ l.length := by
  have := (cnt_rng (p := p) (most := most) (l := l) l.length 0).2
  unfold cntP; omega
theorem pack0_loop {n : Nat} {p most : Int} (hn : 2000 ≤ n) : ∀ (d k : Nat) (l : List Msg) (acc : List Bs), l.length ≤ d → d < k → l.length + acc.length ≤ 1000 → (∀ m ∈ l, GoodP p m ∧ fitsP p most [m] = true) →
    L_pack_Pack_0 n k p most l acc = some ((acc ++ (chunks p most d l).map (fun c => (encP p c).1), 0, 0, ()), ()) := by
  intro d
  induction d with
  | zero =>
    intro k l acc hd hk hl g
    obtain ⟨k, rfl⟩ : ∃ j, k = j + 1 := ⟨k - 1, by omega⟩
    rw [L_pack_Pack_0_eq, ifn (by omega)]
    simp [chunks]
  | succ d ih =>
    intro k l acc hd hk hl g
    obtain ⟨k, rfl⟩ : ∃ j, k = j + 1 := ⟨k - 1, by omega⟩
    rw [L_pack_Pack_0_eq]
    cases l with
    | nil => rw [ifn (by simp)]; simp [chunks]
    | cons m r =>
      have h1 := cntP_pos (r := r) (g m (by simp)).2
      have h2 := cntP_le (p := p) (most := most) (l := m :: r)
      have := pack1_loop (n := n) (m0 := k) (most := most) (acc := acc) (l := m :: r) (by simp at hl ⊢; omega) (by omega) (fun x hx => (g x hx).1) (m :: r).length n 0 (by omega) (by simp at hl ⊢; omega)
      rw [show lastD p (m :: r) 0 = [] from rfl, show ((0 : Nat) : Int) = 0 from rfl, show cnt p most (m :: r) (m :: r).length 0 = cntP p most (m :: r) from rfl] at this
      rw [ifd (by simp only [List.length_cons]; omega), this, ih k _ _ (by rw [List.length_drop]; simp at hd h2 ⊢; omega) (by omega) (by rw [List.length_drop, List.length_append]; simp at hl h2 ⊢; omega) (fun x hx => g x (List.mem_of_mem_drop hx))]
      have hc : chunks p most (d + 1) (m :: r) = (m :: r).take (cntP p most (m :: r)) :: chunks p most d ((m :: r).drop (cntP p most (m :: r))) := by rw [chunks, if_neg (by simp)]
      rw [hc, List.map_cons, List.append_assoc]
      have hld : lastD p (m :: r) (cntP p most (m :: r)) = (encP p ((m :: r).take (cntP p most (m :: r)))).1 := by unfold lastD; rw [if_neg (by omega)]
      rw [hld]; rfl
theorem one_at {l : List Msg} {i : Nat} (h : i < l.length) : (l.take (i + 1)).drop i = [l[i]] := by
  rw [List.take_succ_eq_append_getElem h, List.drop_left' (by rw [List.length_take]; omega)]
noncomputable def checkP (p most : Int) (l : List Msg) : Int × Int :=
  if p < 1 ∨ 4 < p then (0, 1) else match badP (rightP p) l 0 with
    | some i => ((i : Int), 1)
    | none => match badP (fun m => fitsP p most [m]) l 0 with
      | some i => ((i : Int), 11)
      | none => (0, 0)
theorem check1_loop {n : Nat} {p most : Int} {l : List Msg} (hl : l.length ≤ 1000) (g : ∀ m ∈ l, GoodP p m) : ∀ (d k i : Nat), i + d = l.length → d < k →
    L_pack_check_1 n k p l most i = some ((match badP (fun m => fitsP p most [m]) (l.drop i) i with | some j => (((j : Nat) : Int), 11, ()) | none => (0, 0, ())), ()) := by
  intro d
  induction d with
  | zero =>
    intro k i h hk
    obtain ⟨k, rfl⟩ : ∃ j, k = j + 1 := ⟨k - 1, by omega⟩
    rw [L_pack_check_1_eq, ifn (by omega), List.drop_eq_nil_of_le (by omega)]; rfl
  | succ d ih =>
    intro k i h hk
    obtain ⟨k, rfl⟩ : ∃ j, k = j + 1 := ⟨k - 1, by omega⟩
    have hi : i < l.length := by omega
    have := ih k (i + 1) (by omega) (by omega)
    rw [show ((i + 1 : Nat) : Int) = (i : Int) + 1 by omega] at this
    rw [L_pack_check_1_eq, ifd (by omega), w64 (x := (i : Int) + 1) (by omega) (by omega), if_pos (by omega), show ((i : Int) + 1).toNat = i + 1 by omega, Int.toNat_natCast, one_at hi, pfits_is (fun m hm => by rw [List.mem_singleton.1 hm]; exact g _ (List.getElem_mem hi)) (by simp), Option.bind_some, List.drop_eq_getElem_cons hi, badP]
    dsimp only
    cases hf : fitsP p most [l[i]] with
    | false => rw [ifnf, iff_]
    | true => rw [ifnt, ift]; exact this
theorem check_is {p most : Int} {l : List Msg} (hl : l.length ≤ 1000) (g : ∀ m ∈ l, GoodP p m) : g_pack_check (p, l, most, ()) = some (((checkP p most l).1, (checkP p most l).2, ()), ()) := by
  show h_pack_check fuel _ = _
  rw [h_pack_check_eq]
  unfold checkP
  refine dq_step (fun h => by rw [if_pos (Or.inl h)]) (fun h1 => ?_)
  refine dq_step (fun h => by rw [if_pos (Or.inr h)]) (fun h2 => ?_)
  rw [if_neg (show ¬ (p < 1 ∨ 4 < p) by omega)]
  have main : ∀ (d k i : Nat), i + d = l.length → d < k → L_pack_check_0 fuel k p l most i = some ((match badP (rightP p) (l.drop i) i with | some j => (((j : Nat) : Int), 1, ()) | none => (match badP (fun m => fitsP p most [m]) l 0 with | some j => (((j : Nat) : Int), 11, ()) | none => (0, 0, ()))), ()) := by
    intro d
    induction d with
    | zero =>
      intro k i h hk
      obtain ⟨k, rfl⟩ : ∃ j, k = j + 1 := ⟨k - 1, by omega⟩
      have := check1_loop (n := fuel) (most := most) hl g l.length fuel 0 (by omega) (fuel_ge (by omega))
      rw [List.drop_zero, show ((0 : Nat) : Int) = 0 from rfl] at this
      rw [L_pack_check_0_eq, ifn (by omega), List.drop_eq_nil_of_le (by omega), this]; rfl
    | succ d ih =>
      intro k i h hk
      obtain ⟨k, rfl⟩ : ∃ j, k = j + 1 := ⟨k - 1, by omega⟩
      have hi : i < l.length := by omega
      have := ih k (i + 1) (by omega) (by omega)
      rw [show ((i + 1 : Nat) : Int) = (i : Int) + 1 by omega] at this
      rw [L_pack_check_0_eq, ifd (by omega), if_pos (by omega), Int.toNat_natCast, bind_at hi, sright_p (g _ (List.getElem_mem hi)), Option.bind_some, w64 (by omega) (by omega), List.drop_eq_getElem_cons hi, badP]
      dsimp only
      cases hf : rightP p l[i] with
      | false => rw [ifnf, iff_]
      | true => rw [ifnt, ift]; exact this
  have := main l.length fuel 0 (by omega) (fuel_ge (by omega))
  rw [List.drop_zero, show ((0 : Nat) : Int) = 0 from rfl] at this
  rw [this]
  cases badP (rightP p) l 0 with
  | some i => rfl
  | none => cases badP (fun m => fitsP p most [m]) l 0 <;> rfl
noncomputable def packP (p most : Int) (l : List Msg) : List Bs × Int × Int := if (checkP p most l).2 ≠ 0 then ([], checkP p most l) else (packD p most l, 0, 0)
theorem checkP_ok {p most : Int} {l : List Msg} (h : (checkP p most l).2 = 0) : 1 ≤ p ∧ p ≤ 4 ∧ (∀ m ∈ l, rightP p m = true ∧ fitsP p most [m] = true) := by
  unfold checkP at h
  split at h
  · cases h
  · rename_i hp
    split at h
    · cases h
    · rename_i h1
      split at h
      · cases h
      · rename_i h2
        exact ⟨by omega, by omega, fun m hm => ⟨badP_none h1 m hm, badP_none h2 m hm⟩⟩
theorem pack_is {p most : Int} {l : List Msg} (hl : l.length ≤ 1000) (g : ∀ m ∈ l, GoodP p m) : g_pack_Pack (p, l, most, ()) = some (trip (packP p most l), ()) := by
  show h_pack_Pack fuel _ = _
  rw [h_pack_Pack_eq, check_is hl g, Option.bind_some]
  unfold packP
  refine ne_step (fun q => by rw [if_pos q]) (fun q => ?_)
  rw [if_neg (show ¬ (checkP p most l).2 ≠ 0 from fun c => c q)]
  have hc := (checkP_ok (show (checkP p most l).2 = 0 from q)).2.2
  rw [pack0_loop (n := fuel) (Nat.le_of_lt (fuel_ge (by omega))) l.length fuel l [] (Nat.le_refl _) (fuel_ge (by omega)) (by simp; omega) (fun m hm => ⟨g m hm, (hc m hm).2⟩)]
  rfl
theorem chunks_ok {p most : Int} : ∀ (k : Nat) (l : List Msg), l.length ≤ k → (∀ m ∈ l, fitsP p most [m] = true) → (chunks p most k l).flatten = l ∧ (∀ c ∈ chunks p most k l, c ≠ [] ∧ fitsP p most c = true) ∧ (chunks p most k l).length ≤ l.length
  | 0, l, h, _ => by
    have : l = [] := List.eq_nil_of_length_eq_zero (by omega)
    subst this
    exact ⟨rfl, (fun c hc => by cases hc), Nat.le_refl _⟩
  | k + 1, [], h, _ => ⟨by simp [chunks], (fun c hc => by simp [chunks] at hc), by simp [chunks]⟩
  | k + 1, m :: r, h, hf => by
    have h1 := cntP_pos (r := r) (hf m (by simp))
    have h2 := cntP_le (p := p) (most := most) (l := m :: r)
    have hc : chunks p most (k + 1) (m :: r) = (m :: r).take (cntP p most (m :: r)) :: chunks p most k ((m :: r).drop (cntP p most (m :: r))) := by rw [chunks, if_neg (by simp)]
    have hfit : fitsP p most ((m :: r).take (cntP p most (m :: r))) = true := cnt_fits _ _ h1
    have hdl : ((m :: r).drop (cntP p most (m :: r))).length = (m :: r).length - cntP p most (m :: r) := List.length_drop
    obtain ⟨k1, k2, k3⟩ := chunks_ok k ((m :: r).drop (cntP p most (m :: r))) (by omega) (fun x hx => hf x (List.mem_of_mem_drop hx))
    rw [hc]
    refine ⟨by rw [List.flatten_cons, k1, List.take_append_drop], fun c hcc => ?_, by rw [List.length_cons]; omega⟩
    rcases List.mem_cons.1 hcc with rfl | hcc
    · refine ⟨fun q => ?_, hfit⟩
      have := congrArg List.length q
      rw [List.length_take] at this
      simp only [List.length_nil] at this
      omega
    · exact k2 c hcc
end Go.VP
