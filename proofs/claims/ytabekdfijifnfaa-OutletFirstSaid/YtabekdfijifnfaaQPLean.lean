/- What is laid of a message where something is known: program and document. -/
import Derived.Test.YtabekdfijifnfaaQFQ1
import Derived.Test.YtabekdfijifnfaaQFQ2
import Derived.Test.YtabekdfijifnfaaQFQ3
import Derived.Test.YtabekdfijifnfaaQPBase
import Derived.Test.YtabekdfijifnfaaQPCur
import Derived.Test.YtabekdfijifnfaaQPOct
import Derived.Test.YtabekdfijifnfaaQPTlv
import Derived.Test.YtabekdfijifnfaaQPSub
import Derived.Test.YtabekdfijifnfaaQPMsg
import Derived.Test.YtabekdfijifnfaaQPAll
import Derived.Test.YtabekdfijifnfaaQPWrap
import Derived.Test.YtabekdfijifnfaaQPBody
import Derived.Test.YtabekdfijifnfaaQPAddr
import Derived.Test.YtabekdfijifnfaaQPBits
import Derived.Test.YtabekdfijifnfaaQPField
import Derived.Test.YtabekdfijifnfaaQPFieldG
import Derived.Test.YtabekdfijifnfaaQPFieldB
import Derived.Test.YtabekdfijifnfaaQPRoute
import Derived.Test.YtabekdfijifnfaaQPRouteG
import Derived.Test.YtabekdfijifnfaaQPTake
import Derived.Test.YtabekdfijifnfaaQPRouteB
import Derived.Test.YtabekdfijifnfaaQPCtx
import Derived.Test.YtabekdfijifnfaaQPCtxU
import Derived.Test.YtabekdfijifnfaaQFH
import Derived.Test.YtabekdfijifnfaaQPCtxV
import Derived.Test.YtabekdfijifnfaaQPCtxW
import Derived.Test.YtabekdfijifnfaaQPCtxX
import Derived.Test.YtabekdfijifnfaaQPIntake
import Derived.Test.YtabekdfijifnfaaQPFold
import Derived.Test.YtabekdfijifnfaaQPParts
import Derived.Test.YtabekdfijifnfaaQPUpd
import Derived.Test.YtabekdfijifnfaaQPLeanR
import Derived.Test.YtabekdfijifnfaaQPCtxL
import Derived.Test.YtabekdfijifnfaaQPLead
set_option linter.unusedVariables false
set_option linter.unusedSimpArgs false
set_option maxRecDepth 100000
namespace Go.VP
open Go Go.VI
noncomputable def opqB (m : Msg) : Bool := bareB m && (decide (10 < m.type_) && (decide (m.type_ < 256) && decide (m.data.length < 256)))
noncomputable def leanB (m : Msg) : Bool := if m.kind = 11 then updB m else if m.kind = 12 ∨ m.kind = 13 then routeB m else if m.kind = 14 then opqB m else fieldB m
noncomputable def otherF (m : Msg) : Bs := if m.kind = 12 ∨ m.kind = 13 then (routePut m).1 else if m.kind = 14 then (tput m.type_ m.data).1 else (fieldPut m).1
theorem fieldB_kind {m : Msg} (h : fieldB m = true) : 7 ≤ m.kind ∧ m.kind ≤ 10 := by
  rcases (fieldR_iff.1 h).kinds with h | h | ⟨h, _⟩ | ⟨h, _⟩ <;> omega
theorem routeB_kind {m : Msg} (h : routeB m = true) : m.kind = 12 ∨ m.kind = 13 := by
  rcases (routeR_iff.1 h).kinds with h | ⟨h, _⟩
  · exact .inl h
  · exact .inr h
theorem opqR_iff {m : Msg} (hk : m.kind = 14) : opqB m = true ↔ OpqR m := by
  unfold opqB
  simp only [Bool.and_eq_true, decide_eq_true_eq]
  exact ⟨fun ⟨a, b, c, d⟩ => ⟨hk, a, ⟨b, c⟩, d⟩, fun h => ⟨h.bare, h.ty.1, h.ty.2, h.len⟩⟩
theorem leanR_iff {m : Msg} : leanB m = true ↔ LeanR m := by
  unfold leanB
  constructor
  · intro h
    split at h
    · exact .upd (updR_iff.1 h)
    split at h
    · exact .route (routeR_iff.1 h)
    split at h
    · rename_i hk; exact .opq ((opqR_iff hk).1 h)
    · exact .field (fieldR_iff.1 h)
  · intro h
    cases h with
    | field h =>
      have hb := fieldR_iff.2 h
      have := fieldB_kind hb
      rw [if_neg (by omega), if_neg (by omega), if_neg (by omega)]; exact hb
    | route h =>
      have hb := routeR_iff.2 h
      have := routeB_kind hb
      rw [if_neg (by omega), if_pos this]; exact hb
    | upd h => rw [if_pos h.kind]; exact updR_iff.2 h
    | opq h => rw [if_neg (by have := h.kind; omega), if_neg (by have := h.kind; omega), if_pos h.kind]; exact (opqR_iff h.kind).2 h
theorem lright_is {m : Msg} (g : GoodL m) : g_lean_Right (m, ()) = some ((leanB m, ()), ()) := by
  have op : (if bareB m = true then (if (decide (10 < m.type_)) = true then (if (decide (m.type_ < 256)) = true then some (((decide ((m.data.length : Int) < 256)), ()), ()) else some ((false, ()), ())) else some ((false, ()), ())) else some ((false, ()), ())) = (some ((opqB m, ()), ()) : Option ((Bool × Unit) × Unit)) := by
    unfold opqB
    have e : decide ((m.data.length : Int) < 256) = decide (m.data.length < 256) := by rw [Bool.eq_iff_iff]; simp; omega
    rw [e]
    cases bareB m
    · rfl
    cases decide (10 < m.type_)
    · rfl
    cases decide (m.type_ < 256)
    · rfl
    · rfl
  rw [g_lean_Right_eq, cright_is g, rtright_is g.good, bare_is, right_is g.good]
  simp only [Option.bind_some, op]
  unfold leanB
  refine bq_step (fun h => by rw [if_pos h]) (fun h => ?_)
  rw [if_neg h]
  refine bq_step (fun h2 => ?_) (fun h2 => ?_)
  · rw [if_pos (by simp [h2]), if_pos (.inl h2)]
  · refine bq_step (fun h3 => by rw [if_pos (.inr h3)]) (fun h3 => ?_)
    rw [if_neg (show ¬ (m.kind = 12 ∨ m.kind = 13) by omega)]
    exact bq_step (fun h4 => by rw [if_pos h4]) (fun h4 => by rw [if_neg h4])
theorem rlright_is {m : Msg} (g : GoodL m) : g_ref24_Right (m, ()) = some ((leanB m, ()), ()) := by
  have := g.good.few.list; have := g.good.few.subs
  rw [g_ref24_Right_eq, rright_is g.good, Option.bind_some]
  dsimp only
  cases hf : fieldB m with
  | true => rw [ift, leanR_iff.2 (.field (fieldR_iff.1 hf))]
  | false =>
  rw [iff_, rrtright_is g.good, Option.bind_some]
  dsimp only
  cases hr : routeB m with
  | true => rw [ift, leanR_iff.2 (.route (routeR_iff.1 hr))]
  | false =>
  rw [iff_, rcright_is g (.inr (.inr trivial)), Option.bind_some]
  dsimp only
  cases hu : updB m with
  | true => rw [ift, leanR_iff.2 (.upd (updR_iff.1 hu))]
  | false =>
  rw [iff_, g_ref24_opaque_eq, rbare_is (by omega) (by omega)]
  unfold leanB
  rw [hu, hr, hf]
  by_cases hk : m.kind = 14
  · rw [if_pos (by simp [hk]), if_neg (show ¬ m.kind = 11 by omega), if_neg (show ¬ (m.kind = 12 ∨ m.kind = 13) by omega), if_pos hk]
    unfold opqB
    have e : decide ((m.data.length : Int) ≤ 255) = decide (m.data.length < 256) := by rw [Bool.eq_iff_iff]; simp; omega
    have e2 : decide (11 ≤ m.type_) = decide (10 < m.type_) := by rw [Bool.eq_iff_iff]; simp; omega
    have e3 : decide (m.type_ ≤ 255) = decide (m.type_ < 256) := by rw [Bool.eq_iff_iff]; simp; omega
    rw [e, e2, e3]
    simp only [Option.bind_some]
    cases bareB m
    · rfl
    cases decide (10 < m.type_)
    · rfl
    cases decide (m.type_ < 256)
    · rfl
    · rfl
  · rw [if_neg (by simp [hk])]
    have : (if m.kind = 11 then false else if m.kind = 12 ∨ m.kind = 13 then false else if m.kind = 14 then opqB m else false) = false := by
      rw [if_neg hk]
      split
      · rfl
      split
      · rfl
      · rfl
    rw [this]; rfl
theorem other_is {m : Msg} (g : GoodL m) : g_lean_other (m, ()) = some ((otherF m, ()), ()) := by
  rw [g_lean_other_eq, rtput_is' g.good, tput_is, put_is g.good]
  simp only [Option.bind_some]
  unfold otherF
  refine bq_step (fun h2 => ?_) (fun h2 => ?_)
  · rw [if_pos (by simp [h2]), if_pos (.inl h2)]
  · refine bq_step (fun h3 => by rw [if_pos (.inr h3)]) (fun h3 => ?_)
    rw [if_neg (show ¬ (m.kind = 12 ∨ m.kind = 13) by omega)]
    exact bq_step (fun h4 => by rw [if_pos h4]) (fun h4 => by rw [if_neg h4])
theorem fieldPut_no {m : Msg} (h : fieldB m = false) : fieldPut m = ([], false) := by unfold fieldPut; rw [h]; rfl
theorem routePut_no {m : Msg} (h : routeB m = false) : routePut m = ([], false) := by unfold routePut; rw [h]; rfl
theorem rother_is {m : Msg} (g : GoodL m) (h : LeanR m) (hk : m.kind ≠ 11) : g_ref24_other (m, ()) = some ((otherF m, ()), ()) := by
  rw [g_ref24_other_eq, rput20_is g.good, Option.bind_some, rrtput_is g.good, Option.bind_some, rtput_is, Option.bind_some]
  unfold otherF
  dsimp only
  cases h with
  | field h =>
    have hb := fieldR_iff.2 h
    have := fieldB_kind hb
    rw [(fieldPut_ok h).1, ifnt, ifnt, if_neg (by omega), if_neg (by omega)]
  | route h =>
    have hb := routeR_iff.2 h
    have hk := routeB_kind hb
    have hf : fieldB m = false := by
      cases e : fieldB m with
      | false => rfl
      | true => have := fieldB_kind e; omega
    rw [fieldPut_no hf, ifnf, (routePut_ok h).1, ifnt, if_pos hk]
  | upd h => exact absurd h.kind hk
  | opq h =>
    have hkk := h.kind
    have hf : fieldB m = false := by
      cases e : fieldB m with
      | false => rfl
      | true => have := fieldB_kind e; omega
    have hr : routeB m = false := by
      cases e : routeB m with
      | false => rfl
      | true => have := routeB_kind e; omega
    rw [fieldPut_no hf, ifnf, routePut_no hr, ifnf, if_neg (by omega), if_pos hkk]
def idT (s : Bs) : Bs := (tput 6 (idD s)).1
def hopT (a : Bs) : Bs := (tput 7 (hopD a)).1
def updT (m : Msg) (n : Nat) : Bs := (tput 8 (updD m n)).1
theorem tput_len (t : Int) (d : Bs) : (tput t d).1.length ≤ 257 := by unfold tput; split <;> simp; omega
abbrev mkW (b : Bs) (c : Ctx) : S_lean_writer := ⟨b, c.prefix_c0, c.prefix_c1, c.prefix_c2, c.prefix_c3, c.next_c0, c.next_c1, c.id⟩
theorem lput_is {b d : Bs} {c : Ctx} {t : Int} (hb : b.length ≤ 10000) : g_lean_writer_put (mkW b c, t, d, ()) = some ((), (mkW (b ++ (tput t d).1) c, ())) := by
  have := tput_len t d
  rw [g_lean_writer_put_eq, tput_is, Option.bind_some]
  dsimp only
  rw [if_pos (roomB_of (by omega))]
theorem lid_is {b s : Bs} {c : Ctx} (hb : b.length ≤ 10000) (hs : s.length ≤ 10000) : g_lean_writer_id (mkW b c, s, ()) = some ((), (mkW (b ++ idT s) (setId c s), ())) := by
  rw [g_lean_writer_id_eq, if_pos (maxB_of (by omega)), lput_is hb, Option.bind_some]; rfl
theorem lhop_is {b a : Bs} {c : Ctx} {f : Int} (hb : b.length ≤ 10000) (h : (f = 0 ∧ a.length = 4) ∨ (f = 1 ∧ a.length = 16)) : g_lean_writer_hop (mkW b c, f, a, ()) = some ((), (mkW (b ++ hopT a) (setN c f a), ())) := by
  have hf : 0 ≤ f ∧ f < 2 := by omega
  have hal : a.length ≤ 16 := by omega
  rw [g_lean_writer_hop_eq, short_is, Option.bind_some]
  unfold hopT hopD shortF
  by_cases hl : linkB a = true
  · rw [if_pos hl, if_pos hl]
    dsimp only
    rw [ift, if_pos (maxB_of (by simp; omega)), lput_is hb, Option.bind_some, if_pos hf]; rfl
  · rw [if_neg hl, if_neg hl]
    dsimp only
    rw [iff_]
    rcases h with ⟨rfl, h⟩ | ⟨rfl, h⟩
    · rw [if_pos (by decide), if_pos (maxB_of (by omega)), lput_is hb, Option.bind_some, if_pos hf, if_pos h]; rfl
    · rw [if_neg (by decide), if_pos (maxB_of (by omega)), lput_is hb, Option.bind_some, if_pos hf, if_neg (show ¬ a.length = 4 by omega)]; rfl
theorem lbase_is {ae : Int} (h : 0 ≤ ae ∧ ae < 4) : g_lean_base (ae, ()) = some ((baseA ae, ()), ()) := by
  rw [g_lean_base_eq]
  rcases ae_cases h with rfl | rfl | rfl | rfl <;> rfl
theorem UpdR.cutl {m : Msg} (h : UpdR m) : ((cutF m.prefix_ m.plen).length : Int) = leastF m.plen ∧ baseA m.ae ≤ leastF m.plen ∧ 0 ≤ baseA m.ae := by
  have r := h.asR
  obtain ⟨l1, l2, l3, l4, l5, l6⟩ := least_base r.ae r.plen
  exact ⟨r.cut.1, l2, l1⟩
theorem lbytes_is {m : Msg} (h : UpdR m) : g_lean_bytes (m, ()) = some ((bytesP m, ()), ()) := by
  obtain ⟨hae, hpl, hbl, h16, hbs, hp16⟩ := h.pre
  obtain ⟨c1, c2, c3⟩ := h.cutl
  rw [g_lean_bytes_eq, pcut_is (by omega) (has64.2 (by omega)) (by omega), Option.bind_some, lbase_is hae, Option.bind_some]
  dsimp only
  rw [if_pos (by omega)]; rfl
theorem rlbytes_is {m : Msg} (h : UpdR m) : g_ref21_Bytes (m, ()) = some ((bytesP m, ()), ()) := by
  obtain ⟨hae, hpl, hbl, h16, hbs, hp16⟩ := h.pre
  obtain ⟨c1, c2, c3⟩ := h.cutl
  rw [g_ref21_Bytes_eq, rcut_is (by omega) (by omega), Option.bind_some, rbase_is hae, Option.bind_some]
  dsimp only
  rw [if_pos (by omega)]; rfl
def leadC (c : Ctx) (m : Msg) : Nat := if preC c m.ae = [] then 0 else leadN ((preC c m.ae).drop (baseA m.ae).toNat) (bytesP m)
theorem leadC_le (c : Ctx) (m : Msg) : leadC c m ≤ (bytesP m).length := by
  unfold leadC; split
  · omega
  · exact (leadN_le _ _).2
theorem lom_is {b : Bs} {c : Ctx} {m : Msg} (hc : okC c) (h : UpdR m) : g_lean_writer_omitted (mkW b c, m, ()) = some ((((leadC c m : Nat) : Int), ()), (mkW b c, ())) := by
  obtain ⟨hae, hpl, hbl, h16, hbs, hp16⟩ := h.pre
  have hpre : (if m.ae = 0 then c.prefix_c0 else (if m.ae = 1 then c.prefix_c1 else (if m.ae = 2 then c.prefix_c2 else c.prefix_c3))) = preC c m.ae := rfl
  rw [g_lean_writer_omitted_eq, if_pos hae]
  dsimp only
  rw [hpre]
  unfold leadC
  refine be_step (fun hq => by rw [if_pos hq]; rfl) (fun hq => ?_)
  have hl := preC_len hc hae hq
  have hsz : szA m.ae ≤ 16 ∧ baseA m.ae ≤ szA m.ae := by unfold szA baseA; refine ⟨?_, ?_⟩ <;> (split <;> (try split) <;> (try split) <;> omega)
  rw [if_neg hq, lbase_is hae, Option.bind_some]
  dsimp only
  rw [if_pos (by omega), lbytes_is h, Option.bind_some]
  dsimp only
  rw [lead_is (by simp; omega) (by omega), Option.bind_some]
theorem lloop1 {m : Msg} {n k : Nat} {N : Nat} {x0 x1 x2 : Int} {w : S_lean_writer} {p0 p1 p2 p3 x6 : Bs} (hx : x6.length ≤ 100) (hs : rightB m.subs = true) (hfs : FewS m.subs) (hB : g_lean_bytes (m, ()) = some ((bytesP m, ()), ())) (hBl : (bytesP m).length ≤ 16) (hN : N ≤ (bytesP m).length) (hw : w.b.length ≤ 10000) :
    L_lean_writer_update_1 n (k + 1) N m [x0, x1, x2] 3 w p0 p1 p2 p3 x6 3 = some ((), (mkW (w.b ++ (tput 8 ((x6 ++ (bytesP m).drop N) ++ encS m.subs)).1) ⟨p0, p1, p2, p3, w.c_Next_c0, w.c_Next_c1, w.c_Id⟩, ())) := by
  have hsl := encS_small hs
  rw [L_lean_writer_update_1_eq, ifn (by omega), sput_is hfs (by have := hfs.1; have := (rightB_split hs).2; have := sub_len (l := m.subs); omega), Option.bind_some, putS_r hs, hB, Option.bind_some]
  dsimp only
  rw [if_pos (by omega), Int.toNat_natCast, if_pos (maxB_of (by simp; omega)), if_pos (maxB_of (by simp; omega))]
  have := lput_is (b := w.b) (d := (x6 ++ (bytesP m).drop N) ++ encS m.subs) (c := ⟨p0, p1, p2, p3, w.c_Next_c0, w.c_Next_c1, w.c_Id⟩) (t := 8) hw
  rw [this]; rfl
theorem lupd_core {m : Msg} {n k : Nat} {N : Nat} {w : S_lean_writer} {p0 p1 p2 p3 x6 : Bs} (h : UpdR m) (hx : x6.length ≤ 50) (hfs : FewS m.subs) (hN : N ≤ (bytesP m).length) (hw : w.b.length ≤ 10000) :
    L_lean_writer_update_0 n (k + 4) N m w x6 [m.interval, m.seq, m.metric] 3 0 p0 p1 p2 p3 = some ((), (mkW (w.b ++ (tput 8 (x6 ++ (be 2 m.interval ++ (be 2 m.seq ++ (be 2 m.metric ++ ((bytesP m).drop N ++ encS m.subs)))))).1) ⟨p0, p1, p2, p3, w.c_Next_c0, w.c_Next_c1, w.c_Id⟩, ())) := by
  obtain ⟨hae, hpl, hbl, h16, hbs, hp16⟩ := h.pre
  have b2 : ∀ x, (be 2 x).length = 2 := fun x => be_length 2 x
  rw [L_lean_writer_update_0_eq, ifd (by omega), if_pos (by omega)]
  show (if roomB _ = true then L_lean_writer_update_1 n (k + 3) N m [m.interval, m.seq, m.metric] 3 w p0 p1 p2 p3 (x6 ++ ([u8of (IntKind.wrap .u8 (ishr .i64 m.interval 8)), u8of (IntKind.wrap .u8 m.interval)])) 1 else none) = _
  rw [if_pos (roomB_of (by simp; omega)), be2 h.iv, L_lean_writer_update_1_eq, ifd (by omega), if_pos (by omega)]
  show (if roomB _ = true then L_lean_writer_update_1 n (k + 2) N m [m.interval, m.seq, m.metric] 3 w p0 p1 p2 p3 ((x6 ++ be 2 m.interval) ++ ([u8of (IntKind.wrap .u8 (ishr .i64 m.seq 8)), u8of (IntKind.wrap .u8 m.seq)])) 2 else none) = _
  rw [if_pos (roomB_of (by simp [b2]; omega)), be2 h.sq, L_lean_writer_update_1_eq, ifd (by omega), if_pos (by omega)]
  show (if roomB _ = true then L_lean_writer_update_1 n (k + 1) N m [m.interval, m.seq, m.metric] 3 w p0 p1 p2 p3 (((x6 ++ be 2 m.interval) ++ be 2 m.seq) ++ ([u8of (IntKind.wrap .u8 (ishr .i64 m.metric 8)), u8of (IntKind.wrap .u8 m.metric)])) 3 else none) = _
  rw [if_pos (roomB_of (by simp [b2]; omega)), be2 h.me, lloop1 (by simp [b2]; omega) h.subs hfs (lbytes_is h) h16 hN hw]
  simp only [List.append_assoc]
theorem lupd_is {b : Bs} {c : Ctx} {m : Msg} {N : Nat} (h : UpdR m) (hfs : FewS m.subs) (hN : N ≤ (bytesP m).length) (hb : b.length ≤ 10000) : g_lean_writer_update (mkW b c, m, (N : Int), ()) = some ((), (mkW (b ++ updT m N) (setP c m.ae m.prefix_), ())) := by
  obtain ⟨hae, hpl, hbl, h16, hbs, hp16⟩ := h.pre
  obtain ⟨k, hk⟩ : ∃ k, fuel = k + 4 := by obtain ⟨q, e⟩ := fuel_pos; exact ⟨q + 999999999996, e⟩
  have u1 : u8of (IntKind.wrap .u8 m.ae) = u8of m.ae := u8w hae.1
  have u2 : u8of (IntKind.wrap .u8 m.plen) = u8of m.plen := u8w hpl.1
  have u3 : u8of (IntKind.wrap .u8 (N : Int)) = u8of N := u8w (by omega)
  show h_lean_writer_update fuel (mkW b c, m, (N : Int), ()) = _
  rw [h_lean_writer_update_eq, u1, u2, u3]
  generalize hf : (fuel : Nat) = F
  rw [hf] at hk
  unfold updT updD setP flagU
  have hx : ([u8of m.ae, 128, u8of m.plen, u8of N] : Bs).length ≤ 50 := by simp
  refine bq_step (fun h0 => ?_) (fun h0 => ?_)
  · rw [if_pos (by simp), if_pos (by simp), if_pos h0, if_pos h0]
    have := lupd_core (n := F) (k := k) (N := N) (w := mkW b c) (p0 := c.prefix_c0) (p1 := c.prefix_c1) (p2 := c.prefix_c2) (p3 := c.prefix_c3) (x6 := ([u8of m.ae, 128, u8of m.plen, u8of N] : Bs).set 1 (u8of 0)) h (by simp) hfs hN hb
    rw [← hk] at this
    exact this
  · rw [if_pos hae, if_neg h0, if_neg h0]
    have := lupd_core (n := F) (k := k) (N := N) (w := mkW b c) (p0 := if m.ae = 0 then m.prefix_ else c.prefix_c0) (p1 := if m.ae = 1 then m.prefix_ else c.prefix_c1) (p2 := if m.ae = 2 then m.prefix_ else c.prefix_c2) (p3 := if m.ae = 3 then m.prefix_ else c.prefix_c3) (x6 := [u8of m.ae, 128, u8of m.plen, u8of N]) h hx hfs hN hb
    rw [← hk, if_neg h0] at this
    rw [if_neg h0]
    exact this
def headL (c : Ctx) (m : Msg) : Bs := if m.metric = 65535 then [] else (if m.id = c.id then [] else idT m.id) ++ (if m.next = nextC c (famE m.ae) then [] else hopT m.next)
def knownL (c : Ctx) (m : Msg) : Ctx := if m.metric = 65535 then c else setN (setId c m.id) (famE m.ae) m.next
noncomputable def putL (c : Ctx) (m : Msg) : Bs × Ctx × Int :=
  if leanB m = false then ([], c, 1) else if m.kind ≠ 11 then (otherF m, c, 0)
  else if m.metric ≠ 65535 ∧ m.next = [] ∧ nextC c (famE m.ae) ≠ [] then ([], c, 9)
  else (headL c m ++ updT m (leadC c m), setP (knownL c m) m.ae m.prefix_, 0)
noncomputable def plainL (m : Msg) : Bs × Bool :=
  if leanB m = false then ([], false) else if m.kind ≠ 11 then (otherF m, true)
  else ((if m.metric = 65535 then [] else idT m.id ++ (if m.next = [] then [] else hopT m.next)) ++ updT m 0, true)
theorem setId_same {c : Ctx} {i : Bs} (h : i = c.id) : setId c i = c := by subst h; rfl
theorem setN_same {c : Ctx} {f : Int} {a : Bs} (hf : f = 0 ∨ f = 1) (h : a = nextC c f) : setN c f a = c := by
  subst h
  rcases hf with rfl | rfl <;> rfl
theorem UpdR.fam {m : Msg} (h : UpdR m) (hm : m.metric ≠ 65535) : (famE m.ae = 0 ∨ famE m.ae = 1) ∧ (m.next ≠ [] → (famE m.ae = 0 ∧ m.next.length = 4) ∨ (famE m.ae = 1 ∧ m.next.length = 16)) := by
  have hn := h.near hm
  have hf := famE_rng (ae := m.ae) (by have := h.pre.1; omega)
  refine ⟨by omega, fun hne => ?_⟩
  exact famF_cases (by rcases hn.2.2 with q | q; exact absurd q hne; exact q) (by omega)
theorem ltail {b : Bs} {c : Ctx} {m : Msg} (hc : okC c) (h : UpdR m) (hfs : FewS m.subs) (hb : b.length ≤ 1000) :
    ((g_lean_writer_omitted (mkW b c, m, ())).bind fun r6 => ((g_lean_writer_update (r6.2.1, m, r6.1.1, ())).bind fun r7 => (some ((r7.2.1.b, (S_api_Ctx.mk r7.2.1.c_Prefix_c0 r7.2.1.c_Prefix_c1 r7.2.1.c_Prefix_c2 r7.2.1.c_Prefix_c3 r7.2.1.c_Next_c0 r7.2.1.c_Next_c1 r7.2.1.c_Id), 0, ()), ()) : Option ((Bs × Ctx × Int × Unit) × Unit)))) = some ((b ++ updT m (leadC c m), setP c m.ae m.prefix_, 0, ()), ()) := by
  rw [lom_is hc h, Option.bind_some]
  dsimp only
  rw [lupd_is h hfs (leadC_le c m) (by omega), Option.bind_some]
theorem okC_setId {c : Ctx} {i : Bs} (hc : okC c) (h : i.length = 8) : okC (setId c i) := ⟨hc.1, hc.2.1, hc.2.2.1, hc.2.2.2.1, hc.2.2.2.2.1, hc.2.2.2.2.2.1, .inr h⟩
theorem okC_setN {c : Ctx} {f : Int} {a : Bs} (hc : okC c) (h : (f = 0 ∧ a.length = 4) ∨ (f = 1 ∧ a.length = 16)) : okC (setN c f a) := by
  obtain ⟨h0, h1, h2, h3, h4, h5, h6⟩ := hc
  rcases h with ⟨rfl, h⟩ | ⟨rfl, h⟩
  · exact ⟨h0, h1, h2, h3, .inr h, h5, h6⟩
  · exact ⟨h0, h1, h2, h3, h4, .inr h, h6⟩
theorem idT_len (s : Bs) : (idT s).length ≤ 257 := tput_len _ _
theorem hopT_len (s : Bs) : (hopT s).length ≤ 257 := tput_len _ _
theorem lput_main {c : Ctx} {m : Msg} (hc : okC c) (g : GoodL m) : g_lean_Put (c, m, ()) = some (((putL c m).1, (putL c m).2.1, (putL c m).2.2, ()), ()) := by
  rw [g_lean_Put_eq, lright_is g, Option.bind_some]
  unfold putL
  dsimp only
  cases hl : leanB m with
  | false => rw [ifnf, if_pos rfl]
  | true =>
  have hR := leanR_iff.1 hl
  rw [ifnt, if_neg (show ¬ (true = false) by simp)]
  refine ne_step (fun hk => ?_) (fun hk => ?_)
  · rw [other_is g, Option.bind_some, if_pos hk]
  rw [if_neg (show ¬ (m.kind ≠ 11) from fun q => q hk)]
  have h : UpdR m := by
    cases hR with
    | field h => have := fieldB_kind (fieldR_iff.2 h); omega
    | route h => have := routeB_kind (routeR_iff.2 h); omega
    | upd h => exact h
    | opq h => have := h.kind; omega
  have hfs := fewS_of g.good
  unfold headL knownL
  refine ne_step (fun hm => ?_) (fun hm => ?_)
  rotate_left
  · rw [if_neg (show ¬ (m.metric ≠ 65535 ∧ m.next = [] ∧ nextC c (famE m.ae) ≠ []) from fun q => q.1 hm), if_pos hm, if_pos hm]
    exact ltail hc h hfs (by simp)
  have hn := h.near hm
  obtain ⟨hf, hop⟩ := h.fam hm
  have hf2 : 0 ≤ famE m.ae ∧ famE m.ae < 2 := by omega
  have hnx : (if famE m.ae = 0 then c.next_c0 else c.next_c1) = nextC c (famE m.ae) := rfl
  rw [cfam_is, Option.bind_some]
  dsimp only
  rw [hnx, if_neg hm, if_neg hm]
  simp only [if_pos hf2]
  have hil : m.id.length ≤ 10000 := by omega
  have nohop : ∀ (b : Bs) (k : Ctx), okC k → b.length ≤ 300 → nextC k (famE m.ae) = nextC c (famE m.ae) → m.next = nextC c (famE m.ae) → leadC k m = leadC c m →
      ((g_lean_writer_omitted (mkW b k, m, ())).bind fun r6 => ((g_lean_writer_update (r6.2.1, m, r6.1.1, ())).bind fun r7 => (some ((r7.2.1.b, (S_api_Ctx.mk r7.2.1.c_Prefix_c0 r7.2.1.c_Prefix_c1 r7.2.1.c_Prefix_c2 r7.2.1.c_Prefix_c3 r7.2.1.c_Next_c0 r7.2.1.c_Next_c1 r7.2.1.c_Id), 0, ()), ()) : Option ((Bs × Ctx × Int × Unit) × Unit)))) = some ((((b ++ []) ++ updT m (leadC c m)), setP (setN k (famE m.ae) m.next) m.ae m.prefix_, 0, ()), ()) := fun b k hk hb e1 e2 e3 => by
    rw [ltail hk h hfs (by omega), setN_same hf (by rw [e1]; exact e2), e3, List.append_nil]
  have wihop : ∀ (b : Bs) (k : Ctx), okC k → b.length ≤ 300 → m.next ≠ [] → leadC k m = leadC c m →
      ((g_lean_writer_hop (mkW b k, famE m.ae, m.next, ())).bind fun r5 => ((g_lean_writer_omitted (r5.2.1, m, ())).bind fun r6 => ((g_lean_writer_update (r6.2.1, m, r6.1.1, ())).bind fun r7 => (some ((r7.2.1.b, (S_api_Ctx.mk r7.2.1.c_Prefix_c0 r7.2.1.c_Prefix_c1 r7.2.1.c_Prefix_c2 r7.2.1.c_Prefix_c3 r7.2.1.c_Next_c0 r7.2.1.c_Next_c1 r7.2.1.c_Id), 0, ()), ()) : Option ((Bs × Ctx × Int × Unit) × Unit))))) = some ((((b ++ hopT m.next) ++ updT m (leadC c m)), setP (setN k (famE m.ae) m.next) m.ae m.prefix_, 0, ()), ()) := fun b k hk hb hne e3 => by
    have hl := hopT_len m.next
    rw [lhop_is (by omega) (hop hne), Option.bind_some]
    dsimp only
    rw [ltail (okC_setN hk (hop hne)) h hfs (by simp; omega)]
    have : leadC (setN k (famE m.ae) m.next) m = leadC k m := rfl
    rw [this, e3]
  have hl0 : leadC (setId c m.id) m = leadC c m := rfl
  have hidl := idT_len m.id
  by_cases hne : m.next = []
  · rw [if_pos (by simp [hne])]
    by_cases hq : nextC c (famE m.ae) = []
    · rw [if_neg (by simp [hq]), if_neg (show ¬ (m.metric ≠ 65535 ∧ m.next = [] ∧ nextC c (famE m.ae) ≠ []) from fun q => q.2.2 hq)]
      have e2 : m.next = nextC c (famE m.ae) := by rw [hne, hq]
      by_cases hi : m.id = c.id
      · rw [if_neg (by simp [hi]), if_neg (by simp [e2]), if_pos hi, if_pos e2, setId_same hi]
        exact nohop [] c hc (by simp) rfl e2 rfl
      · rw [if_pos (by simp [hi]), if_neg hi, if_pos e2, lid_is (by simp) hil, Option.bind_some]
        dsimp only
        rw [if_neg (by simp [e2])]
        exact nohop (idT m.id) (setId c m.id) (okC_setId hc hn.2.1) (by omega) rfl e2 hl0
    · rw [if_pos (by simp [hq]), if_pos ⟨hm, hne, hq⟩]
  · rw [if_neg (by simpa using hne), if_neg (show ¬ (m.metric ≠ 65535 ∧ m.next = [] ∧ nextC c (famE m.ae) ≠ []) from fun q => hne q.2.1)]
    by_cases hi : m.id = c.id
    · rw [if_neg (by simp [hi]), if_pos hi, setId_same hi]
      by_cases e2 : m.next = nextC c (famE m.ae)
      · rw [if_neg (by simp [e2]), if_pos e2]
        exact nohop [] c hc (by simp) rfl e2 rfl
      · rw [if_pos (by simpa using e2), if_neg e2]
        exact wihop [] c hc (by simp) hne rfl
    · rw [if_pos (by simp [hi]), if_neg hi, lid_is (by simp) hil, Option.bind_some]
      dsimp only
      by_cases e2 : m.next = nextC c (famE m.ae)
      · rw [if_neg (by simp [e2]), if_pos e2]
        exact nohop (idT m.id) (setId c m.id) (okC_setId hc hn.2.1) (by omega) rfl e2 hl0
      · rw [if_pos (by simpa using e2), if_neg e2]
        exact wihop (idT m.id) (setId c m.id) (okC_setId hc hn.2.1) (by omega) hne hl0
theorem lplain_is {m : Msg} (g : GoodL m) : g_lean_Plain (m, ()) = some (((plainL m).1, (plainL m).2, ()), ()) := by
  rw [g_lean_Plain_eq, lright_is g, Option.bind_some]
  unfold plainL
  dsimp only
  cases hl : leanB m with
  | false => rw [ifnf, if_pos rfl]
  | true =>
  have hR := leanR_iff.1 hl
  rw [ifnt, if_neg (show ¬ (true = false) by simp)]
  refine ne_step (fun hk => ?_) (fun hk => ?_)
  · rw [other_is g, Option.bind_some, if_pos hk]
  rw [if_neg (show ¬ (m.kind ≠ 11) from fun q => q hk)]
  have h : UpdR m := by
    cases hR with
    | field h => have := fieldB_kind (fieldR_iff.2 h); omega
    | route h => have := routeB_kind (routeR_iff.2 h); omega
    | upd h => exact h
    | opq h => have := h.kind; omega
  have hfs := fewS_of g.good
  have up : ∀ (b : Bs) (k : Ctx), b.length ≤ 1000 → g_lean_writer_update (mkW b k, m, 0, ()) = some ((), (mkW (b ++ updT m 0) (setP k m.ae m.prefix_), ())) := fun b k hb => lupd_is (N := 0) h hfs (by omega) (by omega)
  have e0 : (S_lean_writer.mk ([] : List UInt8) ([] : List UInt8) ([] : List UInt8) ([] : List UInt8) ([] : List UInt8) ([] : List UInt8) ([] : List UInt8) ([] : List UInt8)) = mkW [] ⟨[], [], [], [], [], [], []⟩ := rfl
  rw [e0]
  refine ne_step (fun hm => ?_) (fun hm => ?_)
  rotate_left
  · rw [if_pos hm, up _ _ (by simp), Option.bind_some]
  have hn := h.near hm
  obtain ⟨hf, hop⟩ := h.fam hm
  have hidl := idT_len m.id
  have hhl := hopT_len m.next
  rw [if_neg hm, lid_is (by simp) (by omega), Option.bind_some]
  dsimp only
  by_cases hne : m.next = []
  · rw [if_neg (by simp [hne]), if_pos hne, up _ _ (by simp; omega), Option.bind_some]; simp
  · rw [if_pos (by simpa using hne), if_neg hne, cfam_is, Option.bind_some]
    dsimp only
    rw [lhop_is (by simp; omega) (hop hne), Option.bind_some]
    dsimp only
    rw [up _ _ (by simp; omega), Option.bind_some]; simp
end Go.VP
