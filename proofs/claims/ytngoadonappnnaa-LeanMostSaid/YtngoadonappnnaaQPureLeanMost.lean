/- Of an Update's prefix one byte more can't be left out: for all arguments. -/
import Derived.Test.YtngoadonappnnaaQFQ5
import Derived.Test.YtngoadonappnnaaQPBase
import Derived.Test.YtngoadonappnnaaQPCur
import Derived.Test.YtngoadonappnnaaQPOct
import Derived.Test.YtngoadonappnnaaQPTlv
import Derived.Test.YtngoadonappnnaaQPSub
import Derived.Test.YtngoadonappnnaaQPMsg
import Derived.Test.YtngoadonappnnaaQPAll
import Derived.Test.YtngoadonappnnaaQPAddr
import Derived.Test.YtngoadonappnnaaQPBits
import Derived.Test.YtngoadonappnnaaQPField
import Derived.Test.YtngoadonappnnaaQPFieldG
import Derived.Test.YtngoadonappnnaaQPFieldB
import Derived.Test.YtngoadonappnnaaQPRoute
import Derived.Test.YtngoadonappnnaaQPRouteG
import Derived.Test.YtngoadonappnnaaQPTake
import Derived.Test.YtngoadonappnnaaQPRouteB
import Derived.Test.YtngoadonappnnaaQPCtx
import Derived.Test.YtngoadonappnnaaQPCtxU
import Derived.Test.YtngoadonappnnaaQPCtxV
import Derived.Test.YtngoadonappnnaaQPCtxW
import Derived.Test.YtngoadonappnnaaQPCtxX
import Derived.Test.YtngoadonappnnaaQPIntake
import Derived.Test.YtngoadonappnnaaQPFold
import Derived.Test.YtngoadonappnnaaQPParts
import Derived.Test.YtngoadonappnnaaQPOk
import Derived.Test.YtngoadonappnnaaQPUpd
import Derived.Test.YtngoadonappnnaaQPLeanR
import Derived.Test.YtngoadonappnnaaQPCtxL
import Derived.Test.YtngoadonappnnaaQPLead
import Derived.Test.YtngoadonappnnaaQPLean
import Derived.Test.YtngoadonappnnaaQPLeanD
import Derived.Test.YtngoadonappnnaaQPLeanB
import Derived.Test.YtngoadonappnnaaQPLeanT
import Derived.Test.YtngoadonappnnaaQFGood
set_option linter.unusedVariables false
set_option linter.unusedSimpArgs false
set_option maxRecDepth 100000
namespace Go.VP
open Go Go.VI
theorem aw24_go : ((g_law24_awake ()).bind fun r5 => some ((r5.1.1, ()), ())) = (some ((true, ()), ()) : Option ((Bool × Unit) × Unit)) := awb24 _
theorem put_last {c : Ctx} {m : Msg} (hu : UpdR m) (he : (putL c m).2.2 = 0) : ∃ l p, spl 0 (putL c m).1 = .ok (l ++ [⟨8, p, updD m (leadC c m)⟩]) := by
  have hs := encS_small hu.subs
  have hl := updD_len hu (leadC c m)
  obtain ⟨_, _, _, h16, _, _⟩ := hu.pre
  have eU : updT m (leadC c m) = u8of 8 :: u8of (updD m (leadC c m)).length :: updD m (leadC c m) := by unfold updT tput; rw [if_pos ⟨by omega, by omega, by omega⟩]
  have one : ∀ p, spl p (updT m (leadC c m)) = .ok [⟨8, p, updD m (leadC c m)⟩] := fun p => by rw [eU]; exact spl_tput (by omega) (by omega)
  have hh : ∀ p, ∃ l, spl p (headL c m) = .ok l := fun p => by
    unfold headL
    by_cases hm : m.metric = 65535
    · rw [if_pos hm]; exact ⟨[], spl_nil p⟩
    · rw [if_neg hm]
      have i8 := (hu.near hm).2.1
      obtain ⟨hf, hop⟩ := hu.fam hm
      have h1 : ∀ p, ∃ l, spl p (if m.id = c.id then [] else idT m.id) = .ok l := fun p => by
        split
        · exact ⟨[], spl_nil p⟩
        · obtain ⟨l, e, _⟩ := says_id (c := c) i8 p; exact ⟨l, e⟩
      have h2 : ∀ p, ∃ l, spl p (if m.next = nextC c (famE m.ae) then [] else hopT m.next) = .ok l := fun p => by
        split
        · exact ⟨[], spl_nil p⟩
        · rename_i hne
          by_cases hz : m.next = []
          · exfalso
            unfold putL at he
            rw [leanR_iff.2 (.upd hu), if_neg (show ¬ (true = false) by simp), if_neg (show ¬ (m.kind ≠ 11) from fun q => q hu.kind), if_pos ⟨hm, hz, fun q => hne (by rw [hz, q])⟩] at he
            exact absurd he (show ¬ ((9 : Int) = 0) by decide)
          · obtain ⟨l, e, _⟩ := says_hop (c := c) (hop hz) p; exact ⟨l, e⟩
      obtain ⟨l, e⟩ := h1 p
      obtain ⟨k, e2⟩ := h2 (p + (if m.id = c.id then [] else idT m.id).length)
      exact ⟨l ++ k, by rw [spl_append _ p l e, e2]; rfl⟩
  obtain ⟨l, e⟩ := hh 0
  have hp : (putL c m).1 = headL c m ++ updT m (leadC c m) := by
    unfold putL at he ⊢
    rw [leanR_iff.2 (.upd hu), if_neg (show ¬ (true = false) by simp), if_neg (show ¬ (m.kind ≠ 11) from fun q => q hu.kind)] at he ⊢
    by_cases hx : m.metric ≠ 65535 ∧ m.next = [] ∧ nextC c (famE m.ae) ≠ []
    · rw [if_pos hx] at he; exact absurd he (show ¬ ((9 : Int) = 0) by decide)
    · rw [if_neg hx]
  rw [hp]
  refine ⟨l, 0 + (headL c m).length, ?_⟩
  rw [spl_append _ 0 l e, one]; rfl
theorem most_core {c : Ctx} {m : Msg} (hc : okC c) (hu : UpdR m) (h0 : m.ae ≠ 0) (hq : preC c m.ae ≠ []) :
    let k := (baseA m.ae).toNat + leadC c m
    (k : Int) ≤ leastF m.plen ∧ k ≤ (preC c m.ae).length ∧ k ≤ m.prefix_.length ∧ (preC c m.ae).take k = m.prefix_.take k ∧ ((k : Int) < leastF m.plen → k < (preC c m.ae).length ∧ k < m.prefix_.length ∧ (preC c m.ae)[k]? ≠ m.prefix_[k]?) := by
  intro k
  have r := hu.asR
  obtain ⟨hae, hpl, hbl, h16, hbs, hp16⟩ := hu.pre
  obtain ⟨l1, l2, l3, l4, l5, l6⟩ := least_base r.ae r.plen
  dsimp only [mk12] at l1 l2 l3 l4 l5 l6
  have hlen : (m.prefix_.length : Int) = szA m.ae := r.len
  have hpc := preC_len hc hae hq
  obtain ⟨p1, p2⟩ := clean_parts (a := m.prefix_) (n := m.plen) r.clean hpl.1
  have hB : bytesP m = (m.prefix_.take (leastF m.plen).toNat).drop (baseA m.ae).toNat := by unfold bytesP; rw [p2]
  have hL : leadC c m = leadN ((preC c m.ae).drop (baseA m.ae).toNat) (bytesP m) := by unfold leadC; rw [if_neg hq]
  have hle := leadC_le c m
  have ht := leadN_take ((preC c m.ae).drop (baseA m.ae).toNat) (bytesP m)
  have hmx := leadN_max ((preC c m.ae).drop (baseA m.ae).toNat) (bytesP m)
  rw [← hL] at ht hmx
  have hk : k = (baseA m.ae).toNat + leadC c m := rfl
  have hb0 : (preC c m.ae).take (baseA m.ae).toNat = m.prefix_.take (baseA m.ae).toNat := by
    rcases ae_cases hae with e | e | e | e
    · exact absurd e h0
    · rw [show (baseA m.ae).toNat = 0 by rw [e]; rfl]; simp
    · rw [show (baseA m.ae).toNat = 0 by rw [e]; rfl]; simp
    · have h8 : (baseA m.ae).toNat = 8 := by rw [e]; rfl
      have a1 := linkB_len (r.link e)
      have hp3 : preC c m.ae = c.prefix_c3 := by rw [e]; rfl
      have a2 : linkB c.prefix_c3 = true := by
        rcases hc.2.2.2.1 with q | q
        · rw [hp3] at hq; exact absurd q hq
        · exact q
      rw [h8, hp3, (linkB_len a2).2]
      exact a1.2.symm
  have hBt : ∀ j, j ≤ (bytesP m).length → (bytesP m).take j = (m.prefix_.drop (baseA m.ae).toNat).take j := fun j hj => by
    rw [hB, List.drop_take, List.take_take, Nat.min_eq_left (by omega)]
  refine ⟨by omega, by omega, by omega, ?_, fun hlt => ⟨by omega, by omega, ?_⟩⟩
  · rw [hk, List.take_add, List.take_add, hb0, ht, hBt _ hle]
  · have hm := hmx (by rw [List.length_drop]; omega) (by omega)
    rw [List.getElem?_drop] at hm
    have : (bytesP m)[leadC c m]? = m.prefix_[(baseA m.ae).toNat + leadC c m]? := by
      rw [hB, List.getElem?_drop, List.getElem?_take_of_lt (by omega)]
    rw [this] at hm
    exact hm
theorem leanMost_pure (x0 : S_api_Ctx) (g0 : Good_api_Ctx x0) (x1 : S_api_Msg) (g1 : Good_api_Msg x1) : g_law24_LeanMost (x0, x1, ()) = some ((true, ()), ()) := by
  rw [g_law24_LeanMost_eq]
  obtain ⟨b, hb, hb'⟩ := few_is (goodMsgA g1)
  rw [hb, Option.bind_some]
  dsimp only
  cases b with
  | false => rw [ifnf]; exact aw24_go
  | true =>
  have g := goodL g1 (hb' rfl).lite
  rw [ifnt]
  refine dq_step' (fun _ => aw24_go) (fun h1 => ?_)
  rw [rok_is, Option.bind_some]
  dsimp only
  cases hok : okB x0 with
  | false => rw [ifnf]; exact aw24_go
  | true =>
  have hc := okB_iff.1 hok
  rw [ifnt]
  refine ne_step (fun _ => aw24_go) (fun hk => ?_)
  rw [lput_main hc g, Option.bind_some]
  dsimp only
  refine ne_step (fun _ => aw24_go) (fun he => ?_)
  refine bq_step (fun _ => aw24_go) (fun h0 => ?_)
  have hR : LeanR x1 := by
    cases hl : leanB x1 with
    | true => exact leanR_iff.1 hl
    | false => unfold putL at he; rw [hl, if_pos rfl] at he; exact absurd he (show ¬ ((1 : Int) = 0) by decide)
  have hu := hR.upd_of hk
  obtain ⟨hae, hpl, hbl, h16, hbs, hp16⟩ := hu.pre
  have hlen := putL_len x0 x1
  obtain ⟨l, p, hs⟩ := put_last hu he
  have hle := leadC_le x0 x1
  have hul := updD_len hu (leadC x0 x1)
  have hll := (spl_ok _ _ _ hs).2
  simp only [List.length_append, List.length_singleton] at hll
  rw [rsplit_is (by omega) (by omega), Option.bind_some, hs]
  dsimp +instances only [trip, splOut, List.nil_append]
  refine ne_step (fun q => absurd rfl q) (fun _ => ?_)
  have hLL : ((l ++ [(⟨8, p, updD x1 (leadC x0 x1)⟩ : Tlv)]).length : Int) = l.length + 1 := by simp
  refine bq_step (fun q => by omega) (fun _ => ?_)
  have hw : IntKind.wrap .i64 (((l ++ [(⟨8, p, updD x1 (leadC x0 x1)⟩ : Tlv)]).length : Int) - 1) = (l.length : Int) := by rw [hLL, w64 (by omega) (by omega)]; omega
  have hget : (l ++ [(⟨8, p, updD x1 (leadC x0 x1)⟩ : Tlv)])[l.length]? = some ⟨8, p, updD x1 (leadC x0 x1)⟩ := by simp
  have hp0 : 0 ≤ (l.length : Int) := by omega
  rw [hw]
  simp only [if_pos hp0, Int.toNat_natCast]
  rw [hget, Option.bind_some]
  refine ne_step (fun q => absurd rfl q) (fun _ => ?_)
  rw [Option.bind_some]
  dsimp only
  rw [ifn (by omega), Option.bind_some]
  have h3 : (updD x1 (leadC x0 x1))[3]? = some (u8of (leadC x0 x1 : Nat)) := rfl
  have hn3 : ((u8of ((leadC x0 x1 : Nat) : Int)).toNat : Int) = leadC x0 x1 := by rw [u8of_int, if_pos (by omega)]; omega
  dsimp only
  rw [h3, Option.bind_some, if_pos hae]
  have hwl : IntKind.wrap .i64 ((leadC x0 x1 : Nat) : Int) = ((leadC x0 x1 : Nat) : Int) := w64 (by omega) (by omega)
  simp only [hn3, hwl]
  have hpre : (if x1.ae = 0 then x0.prefix_c0 else (if x1.ae = 1 then x0.prefix_c1 else (if x1.ae = 2 then x0.prefix_c2 else x0.prefix_c3))) = preC x0 x1.ae := rfl
  have hplus : IntKind.wrap .i64 ((IntKind.wrap .i64 (x1.plen + 7)).tdiv 8) = leastF x1.plen := by
    rw [w64 (x := x1.plen + 7) (by omega) (by omega), Int.tdiv_eq_ediv_of_nonneg (by omega), w64 (by omega) (by omega)]
    unfold leastF; rw [if_neg (by omega)]
  simp only [hpre, hplus]
  have none0 : preC x0 x1.ae = [] → leadC x0 x1 = 0 := fun q => by unfold leadC; rw [if_pos q]
  have core := fun q => most_core hc hu h0 q
  have fin : ∀ B : Int, B = baseA x1.ae → (if (preC x0 x1.ae == ([] : List UInt8)) = true then ((g_law24_awake ()).bind fun r15 => (if r15.1.1 = true then some (((((leadC x0 x1 : Nat) : Int) == 0), ()), ()) else some ((false, ()), ()))) else ((g_law24_awake ()).bind fun r16 => (if r16.1.1 = true then (if (decide ((IntKind.wrap .i64 (B + ((leadC x0 x1 : Nat) : Int))) ≤ leastF x1.plen)) = true then (if 0 ≤ (IntKind.wrap .i64 (B + ((leadC x0 x1 : Nat) : Int))) ∧ (IntKind.wrap .i64 (B + ((leadC x0 x1 : Nat) : Int))) ≤ ((preC x0 x1.ae).length : Int) then (if 0 ≤ (IntKind.wrap .i64 (B + ((leadC x0 x1 : Nat) : Int))) ∧ (IntKind.wrap .i64 (B + ((leadC x0 x1 : Nat) : Int))) ≤ (x1.prefix_.length : Int) then (if ((((preC x0 x1.ae).take (IntKind.wrap .i64 (B + ((leadC x0 x1 : Nat) : Int))).toNat) == (x1.prefix_.take (IntKind.wrap .i64 (B + ((leadC x0 x1 : Nat) : Int))).toNat))) = true then (if ((IntKind.wrap .i64 (B + ((leadC x0 x1 : Nat) : Int))) == leastF x1.plen) = true then some ((true, ()), ()) else (if 0 ≤ (IntKind.wrap .i64 (B + ((leadC x0 x1 : Nat) : Int))) then ((preC x0 x1.ae)[(IntKind.wrap .i64 (B + ((leadC x0 x1 : Nat) : Int))).toNat]?.bind fun (y17 : UInt8) => (if 0 ≤ (IntKind.wrap .i64 (B + ((leadC x0 x1 : Nat) : Int))) then (x1.prefix_[(IntKind.wrap .i64 (B + ((leadC x0 x1 : Nat) : Int))).toNat]?.bind fun (y18 : UInt8) => some ((((y17.toNat : Int) != (y18.toNat : Int)), ()), ())) else none)) else none)) else some ((false, ()), ())) else none) else none) else some ((false, ()), ())) else some ((false, ()), ())))) = (some ((true, ()), ()) : Option ((Bool × Unit) × Unit)) := by
    intro B hB
    refine be_step (fun q => ?_) (fun q => ?_)
    · rw [awb24, none0 q]; rfl
    · rw [awb24]
      dsimp only
      obtain ⟨k1, k2, k3, k4, k5⟩ := core q
      rw [ift, hB, w64 (by omega) (by omega), ifd (by omega), if_pos (by omega), if_pos (by omega)]
      have hk : (baseA x1.ae + ((leadC x0 x1 : Nat) : Int)).toNat = (baseA x1.ae).toNat + leadC x0 x1 := by omega
      rw [hk, if_pos (by simpa using k4)]
      refine bq_step (fun _ => rfl) (fun hne => ?_)
      obtain ⟨j1, j2, j3⟩ := k5 (by omega)
      rw [if_pos (by omega), List.getElem?_eq_getElem j1, Option.bind_some, if_pos (by omega), List.getElem?_eq_getElem j2, Option.bind_some]
      rw [List.getElem?_eq_getElem j1, List.getElem?_eq_getElem j2] at j3
      have : ((((preC x0 x1.ae)[(baseA x1.ae).toNat + leadC x0 x1]).toNat : Int) != ((x1.prefix_[(baseA x1.ae).toNat + leadC x0 x1]).toNat : Int)) = true := by
        simp only [bne_iff_ne, ne_eq]
        intro e; exact j3 (by rw [u8_eq e])
      rw [this]
  refine bq_step (fun h => ?_) (fun h => ?_)
  · exact fin 8 (by rw [h]; rfl)
  · exact fin 0 (by unfold baseA; split <;> (try split) <;> (try split) <;> first | rfl | omega)
end Go.VP
