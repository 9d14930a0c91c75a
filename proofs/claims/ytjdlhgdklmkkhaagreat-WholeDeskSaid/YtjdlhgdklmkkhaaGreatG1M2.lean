import Derived.Test.YtjdlhgdklmkkhaaGreatG1FQ11
import Derived.Test.YtjdlhgdklmkkhaaGreatG1FQ12
import Derived.Test.YtjdlhgdklmkkhaaGreatG1FH
import Derived.Test.YtjdlhgdklmkkhaaGreatG1FQ9
import Derived.Test.YtjdlhgdklmkkhaaGreatG1M0
import Derived.Test.YtjdlhgdklmkkhaaGreatG1M1
import Derived.Test.YtjdlhgdklmkkhaaGreatG1FQ10
import Derived.Test.YtjdlhgdklmkkhaaGreatG1FQ0
import Derived.Test.YtjdlhgdklmkkhaaGreatG1FQ14
import Derived.Test.YtjdlhgdklmkkhaaGreatG1FGood
set_option linter.unusedVariables false
set_option linter.unusedSimpArgs false
set_option maxRecDepth 100000
namespace Go.VP
open Go Go.VI
def headR (b : Bs) : Int × Int :=
  if b.length < 4 then (b.length, 2) else if ¬ (bt b 0 = 1 ∨ bt b 0 = 2) then (0, 4) else if ¬ (bt b 1 = 1 ∨ bt b 1 = 2) then (1, 4)
  else if ¬ (bt b 2 = 0 ∧ bt b 3 = 0) then (2, 5) else if ((b.length : Int) - 4) % 20 ≠ 0 then (b.length, 2) else if b.length = 4 then (b.length, 8) else if 504 < b.length then (504, 8) else (0, 0)
theorem headR_ok {b : Bs} (h : (headR b).2 = 0) : 24 ≤ b.length ∧ b.length ≤ 504 ∧ (bt b 0 = 1 ∨ bt b 0 = 2) ∧ (bt b 1 = 1 ∨ bt b 1 = 2) ∧ bt b 2 = 0 ∧ bt b 3 = 0 ∧ ((b.length : Int) - 4) % 20 = 0 := by
  unfold headR at h
  split at h
  · simp at h
  split at h
  · simp at h
  split at h
  · simp at h
  split at h
  · simp at h
  split at h
  · simp at h
  split at h
  · simp at h
  split at h
  · simp at h
  · rename_i h1 h2 h3 h4 h5 h6 h7
    exact ⟨by omega, by omega, by omega, by omega, by omega, by omega, by omega⟩
theorem four_of {b : Bs} (h : ¬ b.length < 4) : ∃ w x y z r, b = w :: x :: y :: z :: r := by
  match b, h with
  | w :: x :: y :: z :: r, _ => exact ⟨w, x, y, z, r, rfl⟩
  | [], h => simp at h
  | [_], h => simp at h
  | [_, _], h => simp at h
  | [_, _, _], h => simp at h
theorem head_is {b : Bs} (hb : b.length ≤ 100000) : g_rip_head (b, ()) = some (((headR b).1, (headR b).2, ()), ()) := by
  rw [g_rip_head_eq]
  by_cases h4 : b.length < 4
  · rw [ifd (by omega)]; unfold headR; rw [if_pos h4]
  obtain ⟨w, x, y, z, r, rfl⟩ := four_of h4
  rw [ifn (by omega)]
  have e0 : bt (w :: x :: y :: z :: r) 0 = (w.toNat : Int) := rfl
  have e1 : bt (w :: x :: y :: z :: r) 1 = (x.toNat : Int) := rfl
  have e2 : bt (w :: x :: y :: z :: r) 2 = (y.toNat : Int) := rfl
  have e3 : bt (w :: x :: y :: z :: r) 3 = (z.toNat : Int) := rfl
  simp only [List.getElem?_cons_zero, List.getElem?_cons_succ, Option.bind_some]
  refine two_step (fun h => ?_) (fun ha => ?_)
  · unfold headR; rw [if_neg h4, if_pos (by rw [e0]; exact h)]
  refine two_step (fun h => ?_) (fun hb' => ?_)
  · unfold headR; rw [if_neg h4, if_neg (by rw [e0]; exact fun c => c ha), if_pos (by rw [e1]; exact h)]
  rw [if_pos (by omega), show (List.take 4 (w :: x :: y :: z :: r)).drop 2 = [y, z] from rfl, zero_is (by simp), Option.bind_some]
  have hz : zeroB [y, z] = true ↔ ((y.toNat : Int) = 0 ∧ (z.toNat : Int) = 0) := by
    simp only [zeroB, List.all_cons, List.all_nil, Bool.and_true, Bool.and_eq_true, beq_iff_eq]
    constructor
    · rintro ⟨rfl, rfl⟩; exact ⟨rfl, rfl⟩
    · rintro ⟨h1, h2⟩; exact ⟨u8_eq h1, u8_eq h2⟩
  refine nb_step (fun h => ?_) (fun hzz => ?_)
  · unfold headR; rw [if_neg h4, if_neg (by rw [e0]; exact fun c => c ha), if_neg (by rw [e1]; exact fun c => c hb'), if_pos (by rw [e2, e3, ← hz]; dsimp only at h; rw [h]; simp)]
  have hzz' := hz.1 hzz
  have hL : (4 : Int) ≤ ((w :: x :: y :: z :: r).length : Int) := by omega
  generalize hLL : (w :: x :: y :: z :: r).length = L at *
  rw [w64 (by omega) (by omega), Int.tmod_eq_emod_of_nonneg (by omega), Int.tdiv_eq_ediv_of_nonneg (by omega), w64 (by omega) (by omega)]
  have hd : headR (w :: x :: y :: z :: r) = (if ((L : Int) - 4) % 20 ≠ 0 then ((L : Int), 2) else if L = 4 then ((L : Int), 8) else if 504 < L then (504, 8) else (0, 0)) := by
    unfold headR; rw [hLL, if_neg (by omega), if_neg (by rw [e0]; exact fun c => c ha), if_neg (by rw [e1]; exact fun c => c hb'), if_neg (by rw [e2, e3]; exact fun c => c hzz')]
  rw [hd]
  refine dq_step (fun h => ?_) (fun h5 => ?_)
  · rw [if_pos (by omega)]
  rw [if_neg (show ¬ ((L : Int) - 4) % 20 ≠ 0 by omega)]
  refine bq_step (fun h => ?_) (fun h6 => ?_)
  · rw [if_pos (by omega)]
  rw [if_neg (show ¬ L = 4 by omega)]
  refine dq_step (fun h => ?_) (fun h7 => ?_)
  · rw [if_pos (by omega)]
  · rw [if_neg (by omega)]
def goR (f : Ent → Msg × Int) (b : Bs) : Nat → Nat → List Msg → List Msg × Int × Int
  | 0, _, acc => (acc, 0, 0)
  | k + 1, at_, acc => if (f (entF (cut_ b at_ 20))).2 ≠ 0 then ([], (at_ : Int), (f (entF (cut_ b at_ 20))).2) else goR f b k (at_ + 20) (acc ++ [(f (entF (cut_ b at_ 20))).1])
noncomputable def rt (cmd ver : Int) (says : Bs) (alone : Bool) (e : Ent) : Msg × Int := (routeM cmd ver says e, errR cmd ver says alone e)
theorem msgBo : bo_api_Msg ≤ 100000 := Nat.le_of_ble_eq_true (by kernel_rfl)
theorem parse_loop {n : Nat} {b : Bs} {cmd ver : Int} {says : Bs} {alone : Bool} (hb : b.length ≤ 100000) : ∀ (k m at_ : Nat) (acc : List Msg), at_ + 20 * k = b.length → k < m → acc.length + k ≤ 10000 →
    L_rip_Parse_0 n m b at_ acc cmd ver says alone = some (((goR (rt cmd ver says alone) b k at_ acc).1, (goR (rt cmd ver says alone) b k at_ acc).2.1, (goR (rt cmd ver says alone) b k at_ acc).2.2, ()), ()) := by
  intro k
  induction k with
  | zero =>
    intro m at_ acc h hm ha
    obtain ⟨m, rfl⟩ : ∃ k, m = k + 1 := ⟨m - 1, by omega⟩
    rw [L_rip_Parse_0_eq, ifn (by omega)]; rfl
  | succ k ih =>
    intro m at_ acc h hm ha
    obtain ⟨m, rfl⟩ : ∃ k, m = k + 1 := ⟨m - 1, by omega⟩
    have hl : (cut_ b at_ 20).length = 20 := cut_len (n := 20) (by omega)
    obtain ⟨m', er, hm'⟩ := route_is (cmd := cmd) (ver := ver) (says := says) (alone := alone) (entF_ok hl)
    rw [L_rip_Parse_0_eq, ifd (by omega), w64 (by omega) (by omega), if_pos (by omega)]
    rw [show (List.take ((at_ : Int) + 20).toNat b).drop ((at_ : Int)).toNat = cut_ b at_ 20 from rfl, entGet_is hl, Option.bind_some]
    dsimp only
    rw [er, Option.bind_some]
    dsimp only
    refine ne_step (fun he => ?_) (fun he => ?_)
    · rw [goR, if_pos (show (rt cmd ver says alone (entF (cut_ b at_ 20))).2 ≠ 0 from he)]; rfl
    · have := ih m (at_ + 20) (acc ++ [m']) (by omega) (by omega) (by simp; omega)
      rw [show ((at_ + 20 : Nat) : Int) = (at_ : Int) + 20 by omega] at this
      have hbo := msgBo
      rw [if_pos (roomB_of (by rw [show (acc.length + [m'].length) = acc.length + 1 from rfl]; exact Nat.le_trans (Nat.mul_le_mul (show acc.length + 1 ≤ 10000 by omega) hbo) (by decide))), this, goR, if_neg (show ¬ (rt cmd ver says alone (entF (cut_ b at_ 20))).2 ≠ 0 from fun c => c he), hm' he]; rfl
def authB (b : Bs) : Bool := b.take 2 == [255, 255]
theorem auth_is {s : Bs} (h : s.length = 20) : g_auth_Get (s, ()) = some (((if authB s = true then s.drop 2 else []), authB s, ()), ()) := by
  rw [g_auth_Get_eq, g_strings_CutPrefix_eq, g_internal_stringslite_CutPrefix_eq, g_internal_stringslite_HasPrefix_eq]
  rw [ifd (by simp; omega), if_pos (by simp; omega), Option.bind_some]
  rw [show (([255, 255] : Bs).length : Int).toNat = 2 from rfl]
  cases ha : authB s with
  | false =>
    have : (s.take 2 == [255, 255]) = false := ha
    rw [this]; rfl
  | true =>
    have : (s.take 2 == [255, 255]) = true := ha
    rw [this]
    dsimp only
    rw [ifnt, if_pos (by simp; omega), Option.bind_some, Option.bind_some]
    dsimp only
    rw [ifnt, if_neg (by simp; omega), if_pos rfl]
noncomputable def parseR (b : Bs) : List Msg × Int × Int :=
  if (headR b).2 ≠ 0 then ([], (headR b).1, (headR b).2)
  else if bt b 1 = 2 ∧ authB (cut_ b 4 20) = true then
    (if b.length = 24 then ([], 24, 8) else goR (rt (bt b 0) (bt b 1) ((cut_ b 4 20).drop 2) (decide (b.length = 44))) b ((b.length - 24) / 20) 24 [])
  else goR (rt (bt b 0) (bt b 1) [] (decide (b.length = 24))) b ((b.length - 4) / 20) 4 []
theorem beq_dec (a c : Nat) : (((a : Int) == (c : Int)) : Bool) = decide (a = c) := by
  rw [Bool.eq_iff_iff, beq_iff_eq, decide_eq_true_eq]; omega
theorem parse_is {b : Bs} (hb : b.length ≤ 100000) : g_rip_Parse (b, ()) = some (((parseR b).1, (parseR b).2.1, (parseR b).2.2, ()), ()) := by
  show h_rip_Parse fuel (b, ()) = _
  rw [h_rip_Parse_eq, head_is hb, Option.bind_some]
  dsimp only
  refine ne_step (fun he => ?_) (fun he => ?_)
  · unfold parseR; rw [if_pos he]
  obtain ⟨h1, h2, h3, h4, _, _, h5⟩ := headR_ok he
  have hl : (cut_ b 4 20).length = 20 := cut_len (p := 4) (n := 20) (by omega)
  rw [get_bt (i := 0) (by omega), Option.bind_some, get_bt (i := 1) (by omega), Option.bind_some, if_pos (by omega), show (List.take 24 b).drop 4 = cut_ b 4 20 from rfl, auth_is hl, Option.bind_some, w64n, w64n]
  have e0 : bt b 0 = (((b[0]?.getD 0).toNat : Nat) : Int) := rfl
  have e1 : bt b 1 = (((b[1]?.getD 0).toNat : Nat) : Int) := rfl
  rw [← e0, ← e1]
  have L4 := parse_loop (n := fuel) (cmd := bt b 0) (ver := bt b 1) (says := []) (alone := decide (b.length = 24)) hb ((b.length - 4) / 20) fuel 4 [] (by omega) (fuel_ge (by omega)) (by simp; omega)
  have no : ¬ (bt b 1 = 2 ∧ authB (cut_ b 4 20) = true) → (if ((4 : Int) == (b.length : Int)) = true then (some (([], 4, 8, ()), ()) : Option ((List Msg × Int × Int × Unit) × Unit)) else (L_rip_Parse_0 fuel fuel b 4 [] (bt b 0) (bt b 1) ([] : List UInt8) ((b.length : Int) == 24))) = some (((parseR b).1, (parseR b).2.1, (parseR b).2.2, ()), ()) := fun hn => by
    rw [if_neg (by simp; omega), show (((b.length : Int) == 24) : Bool) = decide (b.length = 24) from beq_dec _ 24, show (4 : Int) = ((4 : Nat) : Int) from rfl, L4]
    unfold parseR; rw [if_neg (fun c => c he), if_neg hn]
  dsimp only
  cases ha : authB (cut_ b 4 20) with
  | false => rw [iff_]; exact no (by rw [ha]; simp)
  | true =>
    rw [ift]
    refine bq_step (fun hv => ?_) (fun hv => no (fun c => hv c.1))
    have hp : parseR b = (if b.length = 24 then ([], 24, 8) else goR (rt (bt b 0) (bt b 1) ((cut_ b 4 20).drop 2) (decide (b.length = 44))) b ((b.length - 24) / 20) 24 []) := by
      unfold parseR; rw [if_neg (fun c => c he), if_pos ⟨hv, ha⟩]
    rw [hp]
    refine bq_step (fun hq => ?_) (fun hq => ?_)
    · rw [if_pos (by omega)]
    · have L24 := parse_loop (n := fuel) (cmd := bt b 0) (ver := bt b 1) (says := (cut_ b 4 20).drop 2) (alone := decide (b.length = 44)) hb ((b.length - 24) / 20) fuel 24 [] (by omega) (fuel_ge (by omega)) (by simp; omega)
      rw [ift, if_neg (show ¬ b.length = 24 by omega), show (((b.length : Int) == 44) : Bool) = decide (b.length = 44) from beq_dec _ 44, show (24 : Int) = ((24 : Nat) : Int) from rfl, L24]
end Go.VP
set_option linter.unusedVariables false
set_option linter.unusedSimpArgs false
set_option maxRecDepth 100000
namespace Go.VP
open Go Go.VI
theorem ishr8R {x : Int} (h : 0 ≤ x) : ishr .i64 x 8 = x / 256 := by
  unfold ishr
  rw [show (2 : Int) ^ (min (8 : Int).toNat IntKind.i64.bits) = 256 by decide]
  exact Int.fdiv_eq_ediv_of_nonneg _ (by decide)
theorem pput_loop {c : Nat} : ∀ (i m : Nat) (x : Int) (acc : Bs), i ≤ acc.length → acc.length ≤ 100 → i < m → 0 ≤ x → L_octet_Put_0 c m x ((i : Int) - 1) acc = some ((be i x ++ acc.drop i, true, ()), ())
  | 0, m, x, acc, h1, h2, hm, hx => by
    obtain ⟨m, rfl⟩ : ∃ k, m = k + 1 := ⟨m - 1, by omega⟩
    rw [L_octet_Put_0_eq, ifn (by omega)]; simp [be]
  | i + 1, m, x, acc, h1, h2, hm, hx => by
    obtain ⟨m, rfl⟩ : ∃ k, m = k + 1 := ⟨m - 1, by omega⟩
    have e : (((i + 1 : Nat) : Int) - 1) = (i : Int) := by omega
    rw [L_octet_Put_0_eq, e, ifd (by omega), if_pos (by omega), Int.toNat_natCast, if_pos (by omega), w64 (by omega) (by omega), ishr8R hx, pput_loop i m (x / 256) _ (by simp; omega) (by simp; omega) (by omega) (by omega), wu8, be]
    have : (acc.set i (u8of (x % 256))).drop i = u8of (x % 256) :: acc.drop (i + 1) := by
      rw [List.drop_eq_getElem_cons (by simp; omega), List.getElem_set_self, List.drop_set_of_lt (by omega)]
    rw [this]; simp
theorem oput_is {n : Int} {k : Nat} (hn : IntKind.has .i64 n) (h1 : 1 ≤ k) (h7 : k ≤ 7) (hf : fitsB n k = true) : g_octet_Put (n, (k : Int), ()) = some ((be k n, true, ()), ()) := by
  show h_octet_Put fuel (n, (k : Int), ()) = _
  have h0 : 0 ≤ n := by unfold fitsB at hf; rw [decide_eq_true_eq] at hf; exact hf.1
  rw [h_octet_Put_eq, fits_is hn h1 h7, Option.bind_some, hf]
  dsimp only
  have hr : (k : Int) ≤ roomI := by unfold roomI; omega
  rw [ifnt, if_pos ⟨by omega, hr⟩, w64 (by omega) (by omega), Int.toNat_natCast, pput_loop k fuel n _ (by simp) (by simp; omega) (fuel_ge (by omega)) h0]
  simp
def entB (e : Ent) : Bs := be 2 e.family ++ be 2 e.tag ++ e.addr ++ e.mask ++ e.next ++ be 4 e.metric
theorem fit2 {n : Int} (h : 0 ≤ n ∧ n ≤ 65535) : fitsB n 2 = true := by unfold fitsB; rw [decide_eq_true_eq]; omega
theorem fit4 {n : Int} (h : 0 ≤ n ∧ n ≤ 4294967295) : fitsB n 4 = true := by unfold fitsB; rw [decide_eq_true_eq]; omega
theorem entPut_is {e : Ent} (h : EntOk e) : g_entry_Put (e, ()) = some ((entB e, true, ()), ()) := by
  have h1 := h.addr; have h2 := h.mask; have h3 := h.next; have h4 := h.fam; have h5 := h.tag; have h6 := h.metric
  have hf : IntKind.has .i64 e.family := has64.2 (by omega)
  have ht : IntKind.has .i64 e.tag := has64.2 (by omega)
  have hm : IntKind.has .i64 e.metric := has64.2 (by omega)
  have a1 := fits_is (k := 4) hm (by omega) (by omega)
  have a2 := fits_is (k := 2) hf (by omega) (by omega)
  have a3 := fits_is (k := 2) ht (by omega) (by omega)
  have b1 := oput_is (k := 2) hf (by omega) (by omega) (fit2 h4)
  have b2 := oput_is (k := 2) ht (by omega) (by omega) (fit2 h5)
  have b3 := oput_is (k := 4) hm (by omega) (by omega) (fit4 h6)
  rw [fit4 h6] at a1; rw [fit2 h4] at a2; rw [fit2 h5] at a3
  rw [show ((2 : Nat) : Int) = 2 from rfl] at *
  rw [show ((4 : Nat) : Int) = 4 from rfl] at *
  rw [g_entry_Put_eq, if_neg (by simp; omega), if_neg (by simp; omega), if_neg (by simp; omega), a1, Option.bind_some]
  dsimp only
  rw [ifnt, a2, Option.bind_some]
  dsimp only
  rw [ifnt, a3, Option.bind_some]
  dsimp only
  rw [ifnt, b1, Option.bind_some, b2, Option.bind_some, b3, Option.bind_some]
  dsimp only
  have l2 := be_length 2
  have l4 := be_length 4
  rw [if_pos (maxB_of (by simp [l2])), if_pos (maxB_of (by simp [l2, h1])), if_pos (maxB_of (by simp [l2, h1, h2])), if_pos (maxB_of (by simp [l2, h1, h2, h3])), if_pos (maxB_of (by simp [l2, l4, h1, h2, h3]))]
  rfl
def entM (m : Msg) : Ent := ⟨m.family, m.tag, m.prefix_, (if m.family = 2 ∧ m.ver = 2 then maskF m.plen else z4), m.next, m.metric⟩
def lineF (m : Msg) : Bs := entB (entM m)
theorem entM_ok {m : Msg} (h : okR m) : EntOk (entM m) := by
  obtain ⟨_, _, _, _, hp, hn, _, h⟩ := h
  refine ⟨?_, ?_, hp, ?_, hn, ?_⟩
  · show 0 ≤ m.family ∧ m.family ≤ 65535; omega
  · show 0 ≤ m.tag ∧ m.tag ≤ 65535; omega
  · unfold entM; dsimp only; split
    · exact maskF_length _
    · rfl
  · show 0 ≤ m.metric ∧ m.metric ≤ 4294967295; omega
theorem lineF_length {m : Msg} (h : okR m) : (lineF m).length = 20 := by
  have g := entM_ok h
  unfold lineF entB
  have h1 := g.addr; have h2 := g.mask; have h3 := g.next
  simp [be_length, h1, h2, h3]
theorem zeros4 : g_octet_Zeros (4, ()) = some ((z4, ()), ()) := by
  rw [g_octet_Zeros_eq, if_pos (by unfold roomI; decide)]; rfl
theorem line_is {m : Msg} (h : okR m) : g_rip_line (m, ()) = some ((lineF m, ()), ()) := by
  have g := entPut_is (entM_ok h)
  rw [g_rip_line_eq, zeros4, Option.bind_some]
  refine bq_step (fun f2 => bq_step (fun v2 => ?_) (fun v2 => ?_)) (fun f2 => ?_)
  · have hp : 0 ≤ m.plen ∧ m.plen ≤ 32 := by obtain ⟨_, _, _, _, _, _, _, h⟩ := h; omega
    rw [maskOf_is hp.1 hp.2, Option.bind_some]
    have e : entM m = ⟨m.family, m.tag, m.prefix_, maskF m.plen, m.next, m.metric⟩ := by unfold entM; rw [if_pos ⟨f2, v2⟩]
    rw [e] at g
    dsimp only
    rw [g, Option.bind_some, ← e]; rfl
  · have e : entM m = ⟨m.family, m.tag, m.prefix_, z4, m.next, m.metric⟩ := by unfold entM; rw [if_neg (fun c => v2 c.2)]
    rw [e] at g
    dsimp only
    rw [g, Option.bind_some, ← e]; rfl
  · have e : entM m = ⟨m.family, m.tag, m.prefix_, z4, m.next, m.metric⟩ := by unfold entM; rw [if_neg (fun c => f2 c.1)]
    rw [e] at g
    dsimp only
    rw [g, Option.bind_some, ← e]; rfl
def togP (f m : Msg) : Prop := m.cmd = f.cmd ∧ m.ver = f.ver ∧ m.auth = f.auth ∧ m.family ≠ 0 ∧ f.family ≠ 0
instance (f m : Msg) : Decidable (togP f m) := by unfold togP; infer_instance
def encGo (f : Msg) (most : Int) : List Msg → Nat → Bs → Bs × Int × Int
  | [], _, acc => (acc, 0, 0)
  | m :: r, i, acc => if (i : Int) = most then ([], (i : Int), 8) else if 0 < i ∧ ¬ togP f m then ([], (i : Int), 7) else encGo f most r (i + 1) (acc ++ lineF m)
theorem tog_is (f m : Msg) : ∃ b, g_rip_together (f, m, ()) = some ((b, ()), ()) ∧ (b = true ↔ togP f m) := by
  rw [g_rip_together_eq]
  by_cases h1 : m.cmd = f.cmd
  · rw [if_pos (by simp [h1])]
    by_cases h2 : m.ver = f.ver
    · rw [if_pos (by simp [h2])]
      by_cases h3 : m.auth = f.auth
      · rw [if_pos (by simp [h3])]
        by_cases h4 : m.family = 0
        · rw [if_neg (by simp [h4])]; exact ⟨_, rfl, by simp [togP, h4]⟩
        · rw [if_pos (by simp [h4])]; exact ⟨_, rfl, by simp [togP, h1, h2, h3, h4]⟩
      · rw [if_neg (by simpa using h3)]; exact ⟨_, rfl, by simp [togP, h3]⟩
    · rw [if_neg (by simpa using h2)]; exact ⟨_, rfl, by simp [togP, h2]⟩
  · rw [if_neg (by simpa using h1)]; exact ⟨_, rfl, by simp [togP, h1]⟩
theorem enc1_loop {n : Nat} {l : List Msg} {f : Msg} {most : Int} (hf : l[0]? = some f) (hok : ∀ m ∈ l, okR m) (hl : l.length ≤ 1000) : ∀ (d m i : Nat) (acc : Bs), i + d = l.length → d < m → acc.length ≤ 1000 + 20 * i →
    L_rip_Encode_1 n m l most acc i = some (((encGo f most (l.drop i) i acc).1, (encGo f most (l.drop i) i acc).2.1, (encGo f most (l.drop i) i acc).2.2, ()), ()) := by
  intro d
  induction d with
  | zero =>
    intro m i acc hd hm ha
    obtain ⟨m, rfl⟩ : ∃ k, m = k + 1 := ⟨m - 1, by omega⟩
    rw [L_rip_Encode_1_eq, ifn (by omega), List.drop_eq_nil_of_le (by omega)]; rfl
  | succ d ih =>
    intro m i acc hd hm ha
    obtain ⟨m, rfl⟩ : ∃ k, m = k + 1 := ⟨m - 1, by omega⟩
    have hi : i < l.length := by omega
    have ho := hok _ (List.getElem_mem hi)
    have := ih m (i + 1) (acc ++ lineF l[i]) (by omega) (by omega) (by simp [lineF_length ho]; omega)
    rw [show ((i + 1 : Nat) : Int) = (i : Int) + 1 by omega] at this
    rw [L_rip_Encode_1_eq, ifd (by omega), if_pos (by omega), Int.toNat_natCast, bind_at hi, List.drop_eq_getElem_cons hi, hf, Option.bind_some, line_is ho, Option.bind_some, if_pos (roomB_of (by rw [lineF_length ho]; omega)), w64 (by omega) (by omega), this, encGo]
    refine bq_step (fun h => ?_) (fun h => ?_)
    · rw [if_pos h]
    rw [if_neg h]
    obtain ⟨b, hb, hb'⟩ := tog_is f l[i]
    rw [hb, Option.bind_some]
    refine dq_step (fun h0 => ?_) (fun h0 => ?_)
    · refine nb_step (fun hz => ?_) (fun hz => ?_)
      · rw [if_pos ⟨by omega, by rw [← hb']; dsimp only at hz; rw [hz]; simp⟩]
      · rw [if_neg (fun c => c.2 (hb'.1 hz))]
    · rw [if_neg (fun c => h0 (by omega))]
open Classical in
noncomputable def badR : List Msg → Nat → Option Nat
  | [], _ => none
  | m :: r, i => if okR m then badR r (i + 1) else some i
def mostR (f : Msg) : Int := if f.auth = [] then 25 else 24
def headE (f : Msg) : Bs := [u8of (f.cmd % 256), u8of (f.ver % 256), 0, 0] ++ (if f.auth = [] then [] else [255, 255] ++ f.auth)
noncomputable def encR (l : List Msg) : Bs × Int × Int := match badR l 0 with
  | some i => ([], (i : Int), 1)
  | none => match l with
    | [] => ([], 0, 8)
    | f :: _ => encGo f (mostR f) l 0 (headE f)
theorem badR_none : ∀ {l : List Msg} {i : Nat}, badR l i = none → ∀ m ∈ l, okR m
  | [], _, _, m, hm => by cases hm
  | x :: r, i, h, m, hm => by
    unfold badR at h
    split at h
    · rename_i hx
      rcases List.mem_cons.1 hm with rfl | hm
      · exact hx
      · exact badR_none h m hm
    · cases h
theorem headE_length {f : Msg} (h : okR f) : (headE f).length = if f.auth = [] then 4 else 24 := by
  obtain ⟨_, _, _, _, _, _, ha, _⟩ := h
  unfold headE
  by_cases e : f.auth = []
  · rw [if_pos e, if_pos e]; rfl
  · rw [if_neg e, if_neg e]
    have : f.auth.length = 18 := by rcases ha with h | h; exact absurd h e; exact h.2
    simp [this]
theorem enc_is {l : List Msg} (g : ∀ m ∈ l, RM m) (hl : l.length ≤ 1000) : g_rip_Encode (l, ()) = some (((encR l).1, (encR l).2.1, (encR l).2.2, ()), ()) := by
  show h_rip_Encode fuel (l, ()) = _
  rw [h_rip_Encode_eq]
  have main : ∀ (d m i : Nat), i + d = l.length → d < m → badR l 0 = badR (l.drop i) i → L_rip_Encode_0 fuel m l i = some (((encR l).1, (encR l).2.1, (encR l).2.2, ()), ()) := by
    intro d
    induction d with
    | zero =>
      intro m i hd hm hb
      obtain ⟨m, rfl⟩ : ∃ k, m = k + 1 := ⟨m - 1, by omega⟩
      rw [List.drop_eq_nil_of_le (by omega)] at hb
      have hn : badR l 0 = none := hb
      have hok := badR_none hn
      rw [L_rip_Encode_0_eq, ifn (by omega)]
      cases l with
      | nil => rfl
      | cons f r =>
        have hf := hok f (by simp)
        have hl4 := headE_length hf
        have he : encR (f :: r) = encGo f (mostR f) (f :: r) 0 (headE f) := by unfold encR; rw [hn]
        rw [he, if_neg (by simp; omega)]
        simp only [List.getElem?_cons_zero, Option.bind_some]
        have L := fun (most : Int) (acc : Bs) (h : acc.length ≤ 1000) => enc1_loop (n := fuel) (f := f) (most := most) (l := f :: r) rfl hok hl (f :: r).length fuel 0 acc (by omega) (fuel_ge (by omega)) (by omega)
        rw [g_auth_Put_eq, wu8, wu8]
        by_cases ha : f.auth = []
        · rw [if_pos (by simp [ha]), Option.bind_some]
          have e1 : headE f = [u8of (f.cmd % 256), u8of (f.ver % 256), 0, 0] := by unfold headE; rw [if_pos ha]; rfl
          have e2 : mostR f = 25 := by unfold mostR; rw [if_pos ha]
          dsimp only
          rw [iff_, e1, e2]
          exact L 25 _ (by simp)
        · have h18 : f.auth.length = 18 := by
            obtain ⟨_, _, _, _, _, _, ha', _⟩ := hf
            rcases ha' with h | h
            · exact absurd h ha
            · exact h.2
          rw [if_neg (by simp; omega), if_pos (maxB_of (by omega)), Option.bind_some]
          have e1 : headE f = [u8of (f.cmd % 256), u8of (f.ver % 256), 0, 0] ++ ([255, 255] ++ f.auth) := by unfold headE; rw [if_neg ha]
          have e2 : mostR f = 24 := by unfold mostR; rw [if_neg ha]
          dsimp only
          rw [ift, if_pos (roomB_of (by simp; omega)), e1, e2]
          exact L 24 _ (by simp; omega)
    | succ d ih =>
      intro m i hd hm hb
      obtain ⟨m, rfl⟩ : ∃ k, m = k + 1 := ⟨m - 1, by omega⟩
      have hi : i < l.length := by omega
      rw [List.drop_eq_getElem_cons hi, badR] at hb
      rw [L_rip_Encode_0_eq, ifd (by omega), if_pos (by omega), Int.toNat_natCast, bind_at hi, ripRight_is (g _ (List.getElem_mem hi)), Option.bind_some]
      dsimp only
      by_cases ho : okR l[i]
      · rw [if_pos ho] at hb
        have := ih m (i + 1) (by omega) (by omega) hb
        rw [rightR_true.2 ho, ifnt, w64 (by omega) (by omega)]
        exact this
      · rw [if_neg ho] at hb
        have : rightR l[i] = false := by cases e' : rightR l[i] with | false => rfl | true => exact absurd (rightR_true.1 e') ho
        rw [this, ifnf]
        unfold encR; rw [hb]
  exact main l.length fuel 0 (by omega) (fuel_ge (by omega)) rfl
end Go.VP
set_option linter.unusedVariables false
set_option linter.unusedSimpArgs false
set_option maxRecDepth 100000
namespace Go.VP
open Go Go.VI
theorem goodRM {m : Msg} (g : Good_api_Msg m) (h : Few m) : RM m := by
  obtain ⟨g1, g2, g3, g4, g5, g6, g7, g8, g9, g10, g11, g12, g13, g14, g15, g16, g17, g18, g19, g20, g21, _⟩ := g
  exact ⟨g9, g8, by have := h.list; omega, by have := h.subs; omega⟩
end Go.VP
set_option linter.unusedVariables false
set_option linter.unusedSimpArgs false
set_option maxRecDepth 100000
namespace Go.VP
open Go Go.VI
theorem enc_good {f : Msg} {most : Int} : ∀ (l : List Msg) (i : Nat) (acc : Bs), (i + l.length : Nat) ≤ most → (∀ (j : Nat) (h : j < l.length), 0 < i + j → togP f l[j]) → encGo f most l i acc = (acc ++ l.flatMap lineF, 0, 0)
  | [], i, acc, _, _ => by simp [encGo]
  | m :: r, i, acc, h, ht => by
    rw [encGo, if_neg (by simp at h; omega), if_neg (fun c => c.2 (ht 0 (by simp) (by omega))), enc_good r (i + 1) _ (by simp at h ⊢; omega) (fun j hj _ => by
      have := ht (j + 1) (by simp; omega) (by omega)
      simpa using this)]
    simp
end Go.VP
set_option linter.unusedVariables false
set_option linter.unusedSimpArgs false
set_option maxRecDepth 100000
namespace Go.VP
open Go Go.VI
theorem encGo_ok {f : Msg} {most : Int} : ∀ (l : List Msg) (i : Nat) (acc : Bs), (i : Int) ≤ most → (encGo f most l i acc).2.2 = 0 → ((i + l.length : Nat) : Int) ≤ most ∧ (∀ (j : Nat) (h : j < l.length), 0 < i + j → togP f l[j])
  | [], i, acc, hi, h => ⟨by simpa using hi, fun j hj => by simp at hj⟩
  | m :: r, i, acc, hi, h => by
    rw [encGo] at h
    by_cases h1 : (i : Int) = most
    · rw [if_pos h1] at h; simp at h
    · rw [if_neg h1] at h
      by_cases h2 : 0 < i ∧ ¬ togP f m
      · rw [if_pos h2] at h; simp at h
      · rw [if_neg h2] at h
        obtain ⟨a, b⟩ := encGo_ok r (i + 1) _ (by omega) h
        refine ⟨by simp only [List.length_cons]; omega, fun j hj h0 => ?_⟩
        cases j with
        | zero =>
          show togP f m
          exact Classical.byContradiction fun c => h2 ⟨by omega, c⟩
        | succ j =>
          have := b j (by simpa using hj) (by omega)
          simpa using this
theorem num_be2R {n : Int} (h : 0 ≤ n ∧ n ≤ 65535) : num (be 2 n) = n := num_be 2 n h.1 (by omega)
theorem num_be4 {n : Int} (h : 0 ≤ n ∧ n ≤ 4294967295) : num (be 4 n) = n := num_be 4 n h.1 (by omega)
theorem cut_at (a m z : Bs) (p n : Int) (hp : p = a.length) (hn : n = m.length) : cut_ (a ++ (m ++ z)) p n = m := by
  subst hp; subst hn
  unfold cut_
  rw [show ((a.length : Int) + (m.length : Int)).toNat = a.length + m.length by omega, Int.toNat_natCast, ← List.append_assoc, List.take_left' (by simp), List.drop_left' rfl]
theorem entF_entB {e : Ent} (h : EntOk e) : entF (entB e) = e := by
  obtain ⟨a, b, c, d, f, g⟩ := e
  have h1 := h.addr; have h2 := h.mask; have h3 := h.next; have h4 := h.fam; have h5 := h.tag; have h6 := h.metric
  dsimp only at h1 h2 h3 h4 h5 h6
  have l2 := be_length 2
  have l4 := be_length 4
  have c1 : cut_ (entB ⟨a, b, c, d, f, g⟩) 0 2 = be 2 a := by
    have := cut_at [] (be 2 a) (be 2 b ++ (c ++ (d ++ (f ++ be 4 g)))) 0 2 rfl (by rw [l2]; rfl)
    rw [← this]; unfold entB; simp only [List.append_assoc, List.nil_append]
  have c2 : cut_ (entB ⟨a, b, c, d, f, g⟩) 2 2 = be 2 b := by
    have := cut_at (be 2 a) (be 2 b) (c ++ (d ++ (f ++ be 4 g))) 2 2 (by rw [l2]; rfl) (by rw [l2]; rfl)
    unfold entB; simp only [List.append_assoc] at this ⊢; exact this
  have c3 : cut_ (entB ⟨a, b, c, d, f, g⟩) 4 4 = c := by
    have := cut_at (be 2 a ++ be 2 b) c (d ++ (f ++ be 4 g)) 4 4 (by simp [l2]) (by rw [h1]; rfl)
    unfold entB; simp only [List.append_assoc] at this ⊢; exact this
  have c4 : cut_ (entB ⟨a, b, c, d, f, g⟩) 8 4 = d := by
    have := cut_at (be 2 a ++ be 2 b ++ c) d (f ++ be 4 g) 8 4 (by simp [l2, h1]) (by rw [h2]; rfl)
    unfold entB; simp only [List.append_assoc] at this ⊢; exact this
  have c5 : cut_ (entB ⟨a, b, c, d, f, g⟩) 12 4 = f := by
    have := cut_at (be 2 a ++ be 2 b ++ c ++ d) f (be 4 g) 12 4 (by simp [l2, h1, h2]) (by rw [h3]; rfl)
    unfold entB; simp only [List.append_assoc] at this ⊢; exact this
  have c6 : cut_ (entB ⟨a, b, c, d, f, g⟩) 16 4 = be 4 g := by
    have := cut_at (be 2 a ++ be 2 b ++ c ++ d ++ f) (be 4 g) [] 16 4 (by simp [l2, h1, h2, h3]) (by rw [l4]; rfl)
    rw [← this]; unfold entB; simp only [List.append_assoc, List.append_nil]
  unfold entF
  rw [c1, c2, c3, c4, c5, c6, num_be2R h4, num_be2R h5, num_be4 h6]
theorem bare_back {m : Msg} (h1 : m.kind = 1) (h : bareB m = true) : m = ⟨1, m.cmd, m.ver, m.auth, m.family, 0, m.prefix_, m.plen, m.tag, m.next, m.metric, [], 0, 0, 0, 0, 0, 0, 0, [], [], [], 0, [], []⟩ := by
  have hb : bareOf m = some ⟨m.kind, m.cmd, m.ver, m.auth, m.family, 0, m.prefix_, m.plen, m.tag, m.next, m.metric, [], 0, 0, 0, 0, 0, 0, 0, [], [], [], 0, [], []⟩ := by unfold bareOf; rw [if_pos h1]
  unfold bareB at h
  rw [hb] at h
  have := eqB_true'.1 h
  rw [h1] at this
  exact this
theorem route_back {m : Msg} {al : Bool} (h : okR m) (ha : m.family = 0 → al = true) : rt m.cmd m.ver m.auth al (entM m) = (m, 0) := by
  have hb := bare_back h.1 h.2.1
  have ho := h
  obtain ⟨_, _, hc, hv, hp, hn, hau, hx⟩ := h
  have hM : routeM m.cmd m.ver m.auth (entM m) = m := by
    have hpl : (if (entM m).family = 0 then (0 : Int) else if m.ver = 1 then 32 else (plenF (entM m).mask).1) = m.plen := by
      show (if m.family = 0 then (0 : Int) else if m.ver = 1 then 32 else (plenF (if m.family = 2 ∧ m.ver = 2 then maskF m.plen else z4)).1) = m.plen
      rcases hx with ⟨f0, _, _, p0, _⟩ | ⟨f2, _, _, ⟨v1, _, p32, _⟩ | ⟨v2, _, _, p1, p2, _⟩⟩
      · rw [if_pos f0, p0]
      · rw [if_neg (by omega), if_pos v1, p32]
      · rw [if_neg (by omega), if_neg (by omega), if_pos ⟨f2, v2⟩, plenF_maskF p1 p2]
    unfold routeM
    rw [hpl]
    exact hb.symm
  unfold rt
  rw [hM]
  have : errR m.cmd m.ver m.auth al (entM m) = 0 := by
    unfold errR
    rw [hM]
    rcases hx with ⟨f0, _, _, p0, _⟩ | ⟨f2, m1, m2, ⟨v1, t0, p32, nz⟩ | ⟨v2, _, _, p1, p2, hcl⟩⟩
    · rw [if_pos (show (entM m).family = 0 from f0), if_pos ⟨ha f0, by show (if m.family = 2 ∧ m.ver = 2 then maskF m.plen else z4) = z4; rw [if_neg (by omega)], ho⟩]
    · have e1 : (entM m).mask = z4 := by show (if m.family = 2 ∧ m.ver = 2 then maskF m.plen else z4) = z4; rw [if_neg (by omega)]
      rw [if_neg (show ¬ (entM m).family = 0 by show ¬ m.family = 0; omega), if_neg (show ¬ (entM m).family ≠ 2 by show ¬ m.family ≠ 2; omega), if_pos v1, if_neg (by rintro (c | c | c); exact c t0; exact c e1; exact c nz), if_neg (show ¬ ((entM m).metric < 1 ∨ 16 < (entM m).metric) by show ¬ (m.metric < 1 ∨ 16 < m.metric); omega)]
    · have e1 : (entM m).mask = maskF m.plen := by show (if m.family = 2 ∧ m.ver = 2 then maskF m.plen else z4) = _; rw [if_pos ⟨f2, v2⟩]
      rw [if_neg (show ¬ (entM m).family = 0 by show ¬ m.family = 0; omega), if_neg (show ¬ (entM m).family ≠ 2 by show ¬ m.family ≠ 2; omega), if_neg (by omega), e1, plenF_maskF p1 p2, if_neg (fun c => c ⟨rfl, hcl⟩), if_neg (show ¬ ((entM m).metric < 1 ∨ 16 < (entM m).metric) by show ¬ (m.metric < 1 ∨ 16 < m.metric); omega)]
  rw [this]
theorem go_back {c v : Int} {s : Bs} {al : Bool} {b : Bs} : ∀ (l : List Msg) (at_ : Nat) (acc : List Msg), (∀ m ∈ l, okR m ∧ m.cmd = c ∧ m.ver = v ∧ m.auth = s ∧ (m.family = 0 → al = true)) → b.drop at_ = l.flatMap lineF → goR (rt c v s al) b l.length at_ acc = (acc ++ l, 0, 0)
  | [], at_, acc, _, _ => by simp [goR]
  | m :: r, at_, acc, hm, hd => by
    obtain ⟨h1, h2, h3, h4, h5⟩ := hm m (by simp)
    have hl := lineF_length h1
    rw [List.flatMap_cons] at hd
    have hcut : cut_ b at_ 20 = lineF m := by
      unfold cut_
      rw [show ((at_ : Int) + 20).toNat = at_ + 20 by omega, Int.toNat_natCast, List.drop_take, show at_ + 20 - at_ = 20 by omega, hd, List.take_left' hl]
    have hn : b.drop (at_ + 20) = r.flatMap lineF := by rw [← List.drop_drop, hd, List.drop_left' hl]
    have hr := route_back (al := al) h1 h5
    rw [h2, h3, h4] at hr
    rw [List.length_cons, goR, hcut]
    unfold lineF
    rw [entF_entB (entM_ok h1), hr, if_neg (by simp), go_back r (at_ + 20) _ (fun x hx => hm x (by simp [hx])) hn]
    simp
theorem flat_len : ∀ {l : List Msg}, (∀ m ∈ l, okR m) → (l.flatMap lineF).length = 20 * l.length
  | [], _ => rfl
  | m :: r, h => by
    rw [List.flatMap_cons, List.length_append, lineF_length (h m (by simp)), flat_len (fun x hx => h x (by simp [hx])), List.length_cons]; omega
theorem headR_of {b : Bs} (k1 : 24 ≤ b.length) (k2 : b.length ≤ 504) (k3 : bt b 0 = 1 ∨ bt b 0 = 2) (k4 : bt b 1 = 1 ∨ bt b 1 = 2) (k5 : bt b 2 = 0 ∧ bt b 3 = 0) (k7 : ((b.length : Int) - 4) % 20 = 0) : headR b = (0, 0) := by
  unfold headR
  rw [if_neg (by omega), if_neg (fun c => c k3), if_neg (fun c => c k4), if_neg (fun c => c k5), if_neg (by omega), if_neg (by omega), if_neg (by omega)]
theorem parse_back {f : Msg} {r : List Msg} (hok : ∀ m ∈ f :: r, okR m) (ht : ∀ m ∈ r, togP f m) (hfam : f.family = 0 → r = []) (hlen : (((f :: r).length : Nat) : Int) ≤ mostR f) : parseR (headE f ++ (f :: r).flatMap lineF) = (f :: r, 0, 0) := by
  have hf := hok f (by simp)
  have hl := headE_length hf
  have hfl := flat_len hok
  have hfo := hf
  obtain ⟨_, _, hc, hv, _, _, hau, hx⟩ := hf
  have hmem : ∀ al : Bool, (r = [] → al = true) → ∀ m ∈ f :: r, okR m ∧ m.cmd = f.cmd ∧ m.ver = f.ver ∧ m.auth = f.auth ∧ (m.family = 0 → al = true) := fun al hal m hm => by
    refine ⟨hok m hm, ?_⟩
    rcases List.mem_cons.1 hm with rfl | hm
    · exact ⟨rfl, rfl, rfl, fun c => hal (hfam c)⟩
    · obtain ⟨t1, t2, t3, t4, _⟩ := ht m hm
      exact ⟨t1, t2, t3, fun c => absurd c t4⟩
  have ub : ∀ x : Int, x = 1 ∨ x = 2 → ((u8of (x % 256)).toNat : Int) = x := fun x hx => by rw [u8of_int]; omega
  have hline : ∃ p q t, lineF f = p :: q :: t ∧ ¬ (p = 255) := by
    have : be 2 f.family = [0, 0] ∨ be 2 f.family = [0, 2] := by
      rcases hx with ⟨f0, _⟩ | ⟨f2, _⟩
      · rw [f0]; exact .inl rfl
      · rw [f2]; exact .inr rfl
    unfold lineF entB entM
    dsimp only
    rcases this with e | e <;> rw [e] <;> exact ⟨_, _, _, rfl, by decide⟩
  by_cases ha : f.auth = []
  · have hE : headE f = [u8of (f.cmd % 256), u8of (f.ver % 256), 0, 0] := by unfold headE; rw [if_pos ha]; rfl
    rw [if_pos ha] at hl
    generalize hX : (f :: r).flatMap lineF = X at *
    have hb : headE f ++ X = u8of (f.cmd % 256) :: u8of (f.ver % 256) :: 0 :: 0 :: X := by rw [hE]; rfl
    rw [hb]
    have b0 : bt (u8of (f.cmd % 256) :: u8of (f.ver % 256) :: 0 :: 0 :: X) 0 = f.cmd := ub _ hc
    have b1 : bt (u8of (f.cmd % 256) :: u8of (f.ver % 256) :: 0 :: 0 :: X) 1 = f.ver := ub _ hv
    have b2 : bt (u8of (f.cmd % 256) :: u8of (f.ver % 256) :: 0 :: 0 :: X) 2 = 0 := rfl
    have b3 : bt (u8of (f.cmd % 256) :: u8of (f.ver % 256) :: 0 :: 0 :: X) 3 = 0 := rfl
    have dr : (u8of (f.cmd % 256) :: u8of (f.ver % 256) :: 0 :: 0 :: X).drop 4 = X := rfl
    have hL : (u8of (f.cmd % 256) :: u8of (f.ver % 256) :: 0 :: 0 :: X).length = 4 + 20 * (f :: r).length := by simp only [List.length_cons] at hfl ⊢; omega
    have hm25 : (f :: r).length ≤ 25 := by unfold mostR at hlen; rw [if_pos ha] at hlen; omega
    have h1 : 1 ≤ (f :: r).length := by simp
    have hna : ¬ authB (cut_ (u8of (f.cmd % 256) :: u8of (f.ver % 256) :: 0 :: 0 :: X) 4 20) = true := by
      have e : cut_ (u8of (f.cmd % 256) :: u8of (f.ver % 256) :: 0 :: 0 :: X) 4 20 = X.take 20 := by
        show ((u8of (f.cmd % 256) :: u8of (f.ver % 256) :: 0 :: 0 :: X).take 24).drop 4 = X.take 20
        rfl
      rw [e]
      obtain ⟨p, q, t, e1, e2⟩ := hline
      have : X = p :: q :: (t ++ r.flatMap lineF) := by rw [← hX, List.flatMap_cons, e1]; rfl
      rw [this]
      simp [authB, e2]
    generalize hB : u8of (f.cmd % 256) :: u8of (f.ver % 256) :: 0 :: 0 :: X = B at *
    unfold parseR
    rw [headR_of (by omega) (by omega) (by rw [b0]; exact hc) (by rw [b1]; exact hv) ⟨b2, b3⟩ (by omega), if_neg (by simp), if_neg (fun c => hna c.2), show (B.length - 4) / 20 = (f :: r).length by omega, b0, b1]
    have := go_back (c := f.cmd) (v := f.ver) (s := []) (al := decide (B.length = 24)) (b := B) (f :: r) 4 [] (by have := hmem (decide (B.length = 24)) (fun c => by rw [c] at hL; simp at hL; simp; omega); rw [ha] at this; exact this) (by rw [dr, hX])
    rw [this]; rfl
  · have h18 : f.ver = 2 ∧ f.auth.length = 18 := by rcases hau with h | h; exact absurd h ha; exact h
    have hE : headE f = [u8of (f.cmd % 256), u8of (f.ver % 256), 0, 0] ++ ([255, 255] ++ f.auth) := by unfold headE; rw [if_neg ha]
    rw [if_neg ha] at hl
    generalize hX : (f :: r).flatMap lineF = X at *
    have hb : headE f ++ X = u8of (f.cmd % 256) :: u8of (f.ver % 256) :: 0 :: 0 :: (([255, 255] ++ f.auth) ++ X) := by rw [hE]; rfl
    have dr : (headE f ++ X).drop 24 = X := List.drop_left' hl
    have hL : (headE f ++ X).length = 24 + 20 * (f :: r).length := by rw [List.length_append, hl, hfl]
    rw [hb] at dr hL ⊢
    generalize hY : ([255, 255] ++ f.auth) ++ X = Y at *
    have b0 : bt (u8of (f.cmd % 256) :: u8of (f.ver % 256) :: 0 :: 0 :: Y) 0 = f.cmd := ub _ hc
    have b1 : bt (u8of (f.cmd % 256) :: u8of (f.ver % 256) :: 0 :: 0 :: Y) 1 = f.ver := ub _ hv
    have b2 : bt (u8of (f.cmd % 256) :: u8of (f.ver % 256) :: 0 :: 0 :: Y) 2 = 0 := rfl
    have b3 : bt (u8of (f.cmd % 256) :: u8of (f.ver % 256) :: 0 :: 0 :: Y) 3 = 0 := rfl
    have hm24 : (f :: r).length ≤ 24 := by unfold mostR at hlen; rw [if_neg ha] at hlen; omega
    have h1 : 1 ≤ (f :: r).length := by simp
    have e : cut_ (u8of (f.cmd % 256) :: u8of (f.ver % 256) :: 0 :: 0 :: Y) 4 20 = [255, 255] ++ f.auth := by
      show Y.take 20 = _
      rw [← hY, List.take_left' (by simp [h18.2])]
    generalize hB : u8of (f.cmd % 256) :: u8of (f.ver % 256) :: 0 :: 0 :: Y = B at *
    unfold parseR
    rw [headR_of (by omega) (by omega) (by rw [b0]; exact hc) (by rw [b1]; exact hv) ⟨b2, b3⟩ (by omega), if_neg (by simp), e, if_pos ⟨by rw [b1]; exact h18.1, rfl⟩, if_neg (by omega), show (B.length - 24) / 20 = (f :: r).length by omega, b0, b1, show (([255, 255] : Bs) ++ f.auth).drop 2 = f.auth from rfl]
    have := go_back (c := f.cmd) (v := f.ver) (s := f.auth) (al := decide (B.length = 44)) (b := B) (f :: r) 24 [] (hmem _ (fun c => by rw [c] at hL; simp at hL; simp; omega)) (by rw [dr, hX])
    rw [this]; rfl
end Go.VP
set_option linter.unusedVariables false
set_option linter.unusedSimpArgs false
set_option maxRecDepth 100000
namespace Go.VP
open Go Go.VI
def extB (l : List Sub) : Bool := l.all (subB 0 255)
def AllE (l : List Sub) : Prop := ∀ y ∈ l, 0 ≤ y.type_ ∧ y.type_ ≤ 255 ∧ y.data.length ≤ 255
theorem allE_iff {l : List Sub} : extB l = true ↔ AllE l := by simp [extB, subB, AllE]
theorem eright_is {l : List Sub} (hl : l.length ≤ 1000000000) : g_ext_Right (l, ()) = some ((extB l, ()), ()) := by
  rw [g_ext_Right_eq, subs_is hl]; rfl
theorem u8t {y : Sub} (h : 0 ≤ y.type_ ∧ y.type_ ≤ 255 ∧ y.data.length ≤ 255) : u8of (IntKind.wrap .u8 y.type_) = u8of y.type_ ∧ u8of (IntKind.wrap .u8 (y.data.length : Int)) = u8of y.data.length := by
  rw [wu8, wu8, u8of_emod' h.1, u8of_emod' (by omega)]; exact ⟨rfl, rfl⟩
theorem eput_loop {l : List Sub} {n : Nat} (hr : AllE l) (h1 : l.length ≤ 1000000) : ∀ (d m i : Nat) (acc : Bs), i + d = l.length → d < m → acc.length ≤ 257 * i →
    L_ext_Put_0 n m l acc i = some ((acc ++ encS (l.drop i), true, ()), ()) := by
  intro d
  induction d with
  | zero =>
    intro m i acc hd hm ha
    obtain ⟨m, rfl⟩ : ∃ k, m = k + 1 := ⟨m - 1, by omega⟩
    rw [L_ext_Put_0_eq, ifn (by omega), List.drop_eq_nil_of_le (by omega), encS, List.append_nil]
  | succ d ih =>
    intro m i acc hd hm ha
    obtain ⟨m, rfl⟩ : ∃ k, m = k + 1 := ⟨m - 1, by omega⟩
    have hlt : i < l.length := by omega
    have hy := hr l[i] (List.getElem_mem hlt)
    have := ih m (i + 1) (acc ++ [u8of l[i].type_, u8of l[i].data.length] ++ l[i].data) (by omega) (by omega) (by simp; omega)
    rw [show ((i + 1 : Nat) : Int) = (i : Int) + 1 by omega] at this
    rw [L_ext_Put_0_eq, ifd (by omega), if_pos (by omega), Int.toNat_natCast, bind_at hlt, (u8t hy).1, (u8t hy).2, if_pos (roomB_of (by simp; omega)), if_pos (roomB_of (by simp; omega)), w64 (by omega) (by omega), this, List.drop_eq_getElem_cons hlt, encS]
    simp
def putE (l : List Sub) : Bs × Bool := if extB l = true then (encS l, true) else ([], false)
theorem putE_ok {l : List Sub} (h : extB l = true) : putE l = (encS l, true) := by unfold putE; rw [if_pos h]
theorem eput_is {l : List Sub} (hl : FewS l) (h1 : l.length ≤ 1000000) : g_ext_Put (l, ()) = some (((putE l).1, (putE l).2, ()), ()) := by
  show h_ext_Put fuel _ = _
  have hs := sumN_rng hl
  rw [h_ext_Put_eq, eright_is hl.1, Option.bind_some]
  unfold putE
  dsimp only
  by_cases h : extB l = true
  · have := eput_loop (n := fuel) (allE_iff.1 h) h1 l.length fuel 0 [] (by omega) (fuel_ge (by omega)) (by simp)
    rw [show ((0 : Nat) : Int) = 0 from rfl] at this
    rw [h, ifnt, bytes_is hl, Option.bind_some, if_pos (show 0 ≤ sumN l ∧ sumN l ≤ roomI by unfold roomI; omega), this, ift]
    simp
  · rw [Bool.not_eq_true] at h
    rw [h, ifnf, iff_]
def goE (s : Bs) : Nat → Nat → List Sub → List Sub × Int × Int
  | 0, _, acc => (acc, 0, 0)
  | d + 1, p, acc =>
    if p < s.length then
      if (s.length : Int) < p + 2 + bt s (p + 1) then ([], p, 2)
      else goE s d (p + 2 + (bt s (p + 1)).toNat) (acc ++ [⟨bt s p, cut_ s (p + 2) (bt s (p + 1))⟩])
    else (acc, 0, 0)
def getE (s : Bs) : List Sub × Int × Int := goE s (s.length + 1) 0 []
theorem eget_loop {s : Bs} {n : Nat} (hs : s.length ≤ 1000000) : ∀ (d m p : Nat) (acc : List Sub), s.length < p + d → p ≤ s.length → d < m → acc.length ≤ p →
    L_ext_Get_0 n m acc s p s.length false = some (trip (goE s d p acc), ()) := by
  intro d
  induction d with
  | zero => intro m p acc h1 h2; omega
  | succ d ih =>
    intro m p acc h1 h2 hm ha
    obtain ⟨m, rfl⟩ : ∃ k, m = k + 1 := ⟨m - 1, by omega⟩
    have w : WfC s p s.length := ⟨by omega, by omega, by omega, by omega⟩
    rw [L_ext_Get_0_eq]
    rw [show g_cursor_Left (⟨s, (p : Int), (s.length : Int), false⟩, ()) = _ from left_is w, Option.bind_some]
    dsimp only
    unfold goE
    by_cases hp : p < s.length
    · rw [ifd (by omega), if_pos hp]
      rw [show g_cursor_Num (⟨s, (p : Int), (s.length : Int), false⟩, 1, ()) = _ from num_ok w (by omega) (by omega) (by omega), Option.bind_some]
      dsimp only
      have w1 := w.fwd (n := 1) (by omega) (by omega)
      rw [num1 (by omega)]
      by_cases h2' : p + 2 ≤ s.length
      · rw [num_ok w1 (by omega) (by omega) (by omega), Option.bind_some]
        dsimp only
        have hb := bt_rng s (p + 1)
        have w2 := w1.fwd (n := 1) (by omega) (by omega)
        rw [show (p : Int) + 1 = ((p + 1 : Nat) : Int) by omega, num1 (s := s) (p := p + 1) (by omega)]
        by_cases h3 : (s.length : Int) < p + 2 + bt s (p + 1)
        · rw [if_pos h3, text_bad (by rw [show (((p + 1 : Nat) : Int)) = (p : Int) + 1 by omega]; exact w2) (.inr (.inr (by omega))), Option.bind_some]
          rfl
        · rw [if_neg h3, text_ok (by rw [show (((p + 1 : Nat) : Int)) = (p : Int) + 1 by omega]; exact w2) (by omega) (by omega), Option.bind_some]
          dsimp only
          rw [iff_, if_pos (room_mul (by simp; omega) subBo)]
          have := ih m (p + 2 + (bt s (p + 1)).toNat) (acc ++ [⟨bt s p, cut_ s (p + 2) (bt s (p + 1))⟩]) (by omega) (by omega) (by omega) (by simp; omega)
          rw [← this, show ((p + 1 : Nat) : Int) + 1 = (p : Int) + 2 by omega]
          congr 1
      · have hb : bt s (p + 1) = 0 := by unfold bt; rw [List.getElem?_eq_none (by omega)]; rfl
        rw [num_bad w1 (by omega) (by omega) (.inr (by omega)), Option.bind_some]
        dsimp only
        rw [text_bad w1 (.inl rfl), Option.bind_some, hb, if_pos (show (s.length : Int) < p + 2 + 0 by omega)]
        rfl
    · rw [ifn (by omega), if_neg hp]
theorem eget_is {s : Bs} (hs : s.length ≤ 1000000) : g_ext_Get (s, ()) = some (trip (getE s), ()) := by
  show h_ext_Get fuel _ = _
  rw [h_ext_Get_eq, new_is, Option.bind_some]
  exact eget_loop (n := fuel) hs (s.length + 1) fuel 0 [] (by omega) (by omega) (fuel_ge (by omega)) (by simp)
end Go.VP
set_option linter.unusedVariables false
set_option linter.unusedSimpArgs false
set_option maxRecDepth 100000
namespace Go.VP
open Go Go.VI
theorem cut_dropN (b : Bs) (p k : Nat) : cut_ b p (k : Int) = (b.drop p).take k := by
  unfold cut_
  rw [show ((p : Int) + (k : Int)).toNat = p + k by omega, Int.toNat_natCast, List.drop_take]
  congr 1
  omega
theorem goE_place {s : Bs} : ∀ (d p : Nat) (acc : List Sub), 0 ≤ (goE s d p acc).2.1 ∧ (goE s d p acc).2.1 ≤ s.length ∧ ((goE s d p acc).2.2 = 0 ∨ (goE s d p acc).2.2 = 2)
  | 0, p, acc => by simp [goE]
  | d + 1, p, acc => by
    unfold goE
    split
    · split
      · dsimp only; omega
      · exact goE_place d _ _
    · simp
theorem getE_place (s : Bs) : 0 ≤ (getE s).2.1 ∧ (getE s).2.1 ≤ s.length ∧ ((getE s).2.2 = 0 ∨ (getE s).2.2 = 2) := goE_place _ _ _
theorem goE_back : ∀ (l : List Sub) (d p : Nat) (s : Bs) (acc : List Sub), AllE l → s.drop p = encS l → p ≤ s.length → s.length < p + d → goE s d p acc = (acc ++ l, 0, 0)
  | [], d, p, s, acc, hl, hs, hp, hd => by
    have := congrArg List.length hs
    rw [List.length_drop] at this
    unfold encS at this
    simp at this
    obtain ⟨d, rfl⟩ : ∃ k, d = k + 1 := ⟨d - 1, by omega⟩
    unfold goE
    rw [if_neg (by omega), List.append_nil]
  | y :: l, d, p, s, acc, hl, hs, hp, hd => by
    obtain ⟨d, rfl⟩ : ∃ k, d = k + 1 := ⟨d - 1, by omega⟩
    have hy := hl y (List.mem_cons_self ..)
    have hlen := congrArg List.length hs
    rw [List.length_drop] at hlen
    unfold encS at hs hlen
    simp only [List.length_cons, List.length_append] at hlen
    have g0 : s[p]? = some (u8of y.type_) := by
      have : (s.drop p)[0]? = some (u8of y.type_) := by rw [hs]; rfl
      rwa [List.getElem?_drop] at this
    have g1 : s[p + 1]? = some (u8of (y.data.length : Int)) := by
      have : (s.drop p)[1]? = some (u8of (y.data.length : Int)) := by rw [hs]; rfl
      rwa [List.getElem?_drop] at this
    have b0 : bt s p = y.type_ := by
      unfold bt; rw [g0]; show ((u8of y.type_).toNat : Int) = _; rw [u8of_int]; omega
    have b1 : bt s (p + 1) = y.data.length := by
      unfold bt; rw [g1]; show ((u8of (y.data.length : Int)).toNat : Int) = _; rw [u8of_int]; omega
    have hd2 : s.drop (p + 2) = y.data ++ encS l := by
      rw [← List.drop_drop, hs]; rfl
    have hc : cut_ s ((p : Int) + 2) (y.data.length : Int) = y.data := by
      have := cut_dropN s (p + 2) y.data.length
      rw [show ((p + 2 : Nat) : Int) = (p : Int) + 2 by omega] at this
      rw [this, hd2, List.take_left]
    unfold goE
    rw [b0, b1, if_pos (by omega), if_neg (by omega), hc, Int.toNat_natCast]
    have := goE_back l d (p + 2 + y.data.length) s (acc ++ [⟨y.type_, y.data⟩]) (fun z hz => hl z (List.mem_cons_of_mem _ hz)) (by rw [← List.drop_drop, hd2, List.drop_left]) (by omega) (by omega)
    rw [this]
    simp
theorem getE_back {l : List Sub} (h : AllE l) : getE (encS l) = (l, 0, 0) := by
  have := goE_back l ((encS l).length + 1) 0 (encS l) [] h rfl (by omega) (by omega)
  rw [List.nil_append] at this
  exact this
end Go.VP
set_option linter.unusedVariables false
set_option linter.unusedSimpArgs false
set_option maxRecDepth 100000
namespace Go.VP
open Go Go.VI
def z16 : Bs := [0, 0, 0, 0, 0, 0, 0, 0, 0, 0, 0, 0, 0, 0, 0, 0]
theorem zeros16 : g_octet_Zeros (16, ()) = some ((z16, ()), ()) := by
  rw [g_octet_Zeros_eq, if_pos (by unfold roomI; decide)]; rfl
def preB (a : Bs) (n : Int) : Bool := decide (0 ≤ n ∧ n ≤ 128) && cleanB a n
theorem pright16_is {a : Bs} {n : Int} (h : a.length = 16) (hn : IntKind.has .i64 n) : g_prefix_Right (a, n, ()) = some ((preB a n, ()), ()) := by
  have h8 : IntKind.wrap .i64 (8 * (a.length : Int)) = 128 := by rw [h]; rfl
  rw [g_prefix_Right_eq, h8]
  unfold preB
  refine bq_step (fun q => by omega) (fun _ => ?_)
  refine bq_step (fun _ => ?_) (fun q => by omega)
  refine dq_step' (fun h0 => ?_) (fun h0 => ?_)
  · refine dq_step' (fun h1 => ?_) (fun h1 => ?_)
    · rw [clean_is (by omega) hn, Option.bind_some, decide_eq_true ⟨h0, h1⟩, Bool.true_and]
    · rw [decide_eq_false (fun q => h1 q.2), Bool.false_and]
  · rw [decide_eq_false (fun q => h0 q.1), Bool.false_and]
structure NgR (m : Msg) : Prop where
  kind : m.kind = 2
  bare : bareB m = true
  cmd : m.cmd = 1 ∨ m.cmd = 2
  tag : 0 ≤ m.tag ∧ m.tag < 65536
  metric : 1 ≤ m.metric ∧ m.metric ≤ 16
  len : m.prefix_.length = 16
  pre : preB m.prefix_ m.plen = true
  next : m.next = z16 ∨ linkB m.next = true
open Classical in
noncomputable def ngB (m : Msg) : Bool := decide (NgR m)
theorem ngR_iff {m : Msg} : ngB m = true ↔ NgR m := by simp [ngB]
theorem ngB_no {m : Msg} (h : ¬ NgR m) : ngB m = false := by simp [ngB, h]
theorem NgR.next16 {m : Msg} (h : NgR m) : m.next.length = 16 := by
  rcases h.next with e | e
  · rw [e]; rfl
  · exact (linkB_len e).1
theorem NgR.plen {m : Msg} (h : NgR m) : 0 ≤ m.plen ∧ m.plen ≤ 128 := by
  have := h.pre; unfold preB at this; simp at this; exact this.1
structure GoodG (m : Msg) : Prop where
  tag : IntKind.has .i64 m.tag
  plen : IntKind.has .i64 m.plen
  cmd : IntKind.has .i64 m.cmd
  list : m.list.length ≤ 1000000000
  subs : m.subs.length ≤ 1000000000
theorem link_or {m : Msg} {r : Option ((Bool × Unit) × Unit)} (h : r = some ((linkB m.next, ()), ())) (hk : NgR m ↔ (m.next = z16 ∨ linkB m.next = true)) : (if (m.next == z16) = true then (some ((true, ()), ()) : Option ((Bool × Unit) × Unit)) else r.bind fun r5 => some ((r5.1.1, ()), ())) = some ((ngB m, ()), ()) := by
  refine be_step (fun q => by rw [ngR_iff.2 (hk.2 (.inl q))]) (fun q => ?_)
  rw [h, Option.bind_some]
  cases hl : linkB m.next with
  | true => rw [ngR_iff.2 (hk.2 (.inr hl))]
  | false => rw [ngB_no (fun x => by rcases hk.1 x with e | e; exact q e; rw [hl] at e; cases e)]
theorem ngright_is {m : Msg} (g : GoodG m) : g_ripng_Right (m, ()) = some ((ngB m, ()), ()) := by
  rw [g_ripng_Right_eq]
  have no : ¬ NgR m → (some ((false, ()), ()) : Option ((Bool × Unit) × Unit)) = some ((ngB m, ()), ()) := fun h => by rw [ngB_no h]
  have tail : (m.kind = 2) → bareB m = true → (m.cmd = 1 ∨ m.cmd = 2) → ((g_octet_Fits (m.tag, 2, ())).bind fun r6 => (if (!r6.1.1) = true then some ((false, ()), ()) else (if (decide (m.metric < 1)) = true then some ((false, ()), ()) else (if (decide (16 < m.metric)) = true then some ((false, ()), ()) else (if ((m.prefix_.length : Int) != 16) = true then some ((false, ()), ()) else ((g_prefix_Right (m.prefix_, m.plen, ())).bind fun r7 => (if (!r7.1.1) = true then some ((false, ()), ()) else ((g_octet_Zeros (16, ())).bind fun r8 => (if (m.next == r8.1.1) = true then some ((true, ()), ()) else ((g_addr_Link (m.next, ())).bind fun r9 => some ((r9.1.1, ()), ())))))))))))= (some ((ngB m, ()), ()) : Option ((Bool × Unit) × Unit)) := by
    intro hk hb hc
    rw [show g_octet_Fits (m.tag, 2, ()) = some ((fitsB m.tag 2, ()), ()) from fits_is (k := 2) g.tag (by omega) (by omega), Option.bind_some]
    dsimp only
    cases hf : fitsB m.tag 2 with
    | false => rw [ifnf]; exact no (fun h => by rw [fitsB2.2 h.tag] at hf; cases hf)
    | true =>
      rw [ifnt]
      refine dq_step' (fun q => no (fun h => by have := h.metric; omega)) (fun h1 => ?_)
      refine dq_step' (fun q => no (fun h => by have := h.metric; omega)) (fun h2 => ?_)
      refine ne_step (fun q => no (fun h => by have := h.len; omega)) (fun h3 => ?_)
      rw [pright16_is (by omega) g.plen, Option.bind_some]
      dsimp only
      cases hp : preB m.prefix_ m.plen with
      | false => rw [ifnf]; exact no (fun h => by rw [h.pre] at hp; cases hp)
      | true =>
        rw [ifnt, zeros16, Option.bind_some]
        exact link_or (link_is _) ⟨fun h => h.next, fun h => ⟨hk, hb, hc, fitsB2.1 hf, by omega, by omega, hp, h⟩⟩
  refine ne_step (fun q => no (fun h => q h.kind)) (fun hk => ?_)
  rw [bare_is, Option.bind_some]
  dsimp only
  cases hb : bareB m with
  | false => rw [ifnf]; exact no (fun h => by rw [h.bare] at hb; cases hb)
  | true =>
    rw [ifnt]
    refine ne_step (fun q1 => ?_) (fun q1 => tail hk hb (.inl q1))
    exact ne_step (fun q2 => no (fun h => by have := h.cmd; omega)) (fun q2 => tail hk hb (.inr q2))
abbrev EntN := S_api_Entry
def entN (s : Bs) : EntN := ⟨bt s 18, num (cut_ s 16 2), s.take 16, [], [], bt s 19⟩
theorem bt_drop (s : Bs) (k i : Nat) : bt (s.drop k) i = bt s (k + i) := by unfold bt; rw [List.getElem?_drop]
theorem rteget_is {s : Bs} (h : s.length = 20) : g_rte_Get (s, ()) = some ((entN s, true, ()), ()) := by
  have hl : (s.drop 16).length = 4 := by rw [List.length_drop]; omega
  have b0 := bt_rng (s.drop 16) 0
  have b1 := bt_rng (s.drop 16) 1
  rw [g_rte_Get_eq]
  refine ne_step (fun q => by omega) (fun _ => ?_)
  rw [if_pos (by omega), if_pos (by omega), get_bt (i := 0) (by omega), Option.bind_some, get_bt (i := 1) (by omega), Option.bind_some, get_bt (i := 2) (by omega), Option.bind_some, get_bt (i := 3) (by omega), Option.bind_some, w64n, w64n, w64n, w64n]
  show some ((S_api_Entry.mk (bt (s.drop 16) 2) (ibits .or .i64 (ishl .i64 (bt (s.drop 16) 0) 8) (bt (s.drop 16) 1)) (s.take 16) [] [] (bt (s.drop 16) 3), true, ()), ()) = _
  rw [ib_or (by omega) (by omega), bt_drop, bt_drop, bt_drop, bt_drop]
  unfold entN
  rw [show ((16 : Int)) = ((16 : Nat) : Int) from rfl, num2 (by omega)]
def entG (a : Bs) (t f m : Int) : Bs := a ++ (be 2 t ++ [u8of f, u8of m])
theorem entG_len {a : Bs} (h : a.length = 16) (t f m : Int) : (entG a t f m).length = 20 := by unfold entG; simp [be_length]; omega
theorem rteput_is {a : Bs} {t f m : Int} (ha : a.length = 16) (ht : 0 ≤ t ∧ t < 65536) (hf : 0 ≤ f ∧ f < 256) (hm : 0 ≤ m ∧ m < 256) : g_rte_Put (⟨f, t, a, [], [], m⟩, ()) = some ((entG a t f m, true, ()), ()) := by
  have f1 : ∀ {n : Int}, 0 ≤ n ∧ n < 256 → fitsB n 1 = true := fun h => by unfold fitsB; rw [decide_eq_true_eq]; omega
  rw [g_rte_Put_eq]
  dsimp only
  refine ne_step (fun q => by omega) (fun _ => ?_)
  rw [if_pos (maxB_of (by simp)), if_neg (by simp), show g_octet_Fits (t, 2, ()) = some ((fitsB t 2, ()), ()) from fits_is (k := 2) (has64.2 (by omega)) (by omega) (by omega), Option.bind_some, fitsB2.2 ht]
  dsimp only
  rw [ifnt, show g_octet_Fits (f, 1, ()) = some ((fitsB f 1, ()), ()) from fits_is (k := 1) (has64.2 (by omega)) (by omega) (by omega), Option.bind_some, f1 hf]
  dsimp only
  rw [ifnt, show g_octet_Fits (m, 1, ()) = some ((fitsB m 1, ()), ()) from fits_is (k := 1) (has64.2 (by omega)) (by omega) (by omega), Option.bind_some, f1 hm]
  dsimp only
  rw [ifnt, if_pos (maxB_of (by simp; omega)), u8w hf.1, u8w hm.1]
  unfold entG
  rw [← be2 ht]; rfl
end Go.VP
set_option linter.unusedVariables false
set_option linter.unusedSimpArgs false
set_option maxRecDepth 100000
namespace Go.VP
open Go Go.VI
def headG (b : Bs) : Int × Int :=
  if 65535 < b.length then (65535, 10) else if b.length < 4 then (b.length, 2) else if ¬ (bt b 0 = 1 ∨ bt b 0 = 2) then (0, 4) else if ¬ bt b 1 = 1 then (1, 4)
  else if ¬ (bt b 2 = 0 ∧ bt b 3 = 0) then (2, 5) else if ((b.length : Int) - 4) % 20 ≠ 0 then (b.length, 2) else (0, 0)
theorem headG_ok {b : Bs} (h : (headG b).2 = 0) : 4 ≤ b.length ∧ b.length ≤ 65535 ∧ (bt b 0 = 1 ∨ bt b 0 = 2) ∧ bt b 1 = 1 ∧ bt b 2 = 0 ∧ bt b 3 = 0 ∧ ((b.length : Int) - 4) % 20 = 0 := by
  unfold headG at h
  repeat (split at h; · simp at h)
  rename_i h1 h2 h3 h4 h5 h6
  exact ⟨by omega, by omega, by omega, by omega, by omega, by omega, by omega⟩
theorem nghead_is {b : Bs} (hb : b.length ≤ 1000000000) : g_ripng_head (b, ()) = some (((headG b).1, (headG b).2, ()), ()) := by
  rw [g_ripng_head_eq]
  refine dq_step (fun h => by unfold headG; rw [if_pos (by omega)]) (fun hl => ?_)
  refine dq_step (fun h => by unfold headG; rw [if_neg (by omega), if_pos (by omega)]) (fun h4 => ?_)
  have h4' : ¬ b.length < 4 := by omega
  obtain ⟨w, x, y, z, r, rfl⟩ := four_of h4'
  have e0 : bt (w :: x :: y :: z :: r) 0 = (w.toNat : Int) := rfl
  have e1 : bt (w :: x :: y :: z :: r) 1 = (x.toNat : Int) := rfl
  have e2 : bt (w :: x :: y :: z :: r) 2 = (y.toNat : Int) := rfl
  have e3 : bt (w :: x :: y :: z :: r) 3 = (z.toNat : Int) := rfl
  rw [show (w :: x :: y :: z :: r)[0]? = some w from rfl, show (w :: x :: y :: z :: r)[1]? = some x from rfl, show (List.take 4 (w :: x :: y :: z :: r)).drop 2 = [y, z] from rfl]
  simp only [Option.bind_some]
  have hL : (4 : Int) ≤ ((w :: x :: y :: z :: r).length : Int) := by omega
  have hz : zeroB [y, z] = true ↔ ((y.toNat : Int) = 0 ∧ (z.toNat : Int) = 0) := by
    simp only [zeroB, List.all_cons, List.all_nil, Bool.and_true, Bool.and_eq_true, beq_iff_eq]
    constructor
    · rintro ⟨rfl, rfl⟩; exact ⟨rfl, rfl⟩
    · rintro ⟨h1, h2⟩; exact ⟨u8_eq h1, u8_eq h2⟩
  generalize hLL : (w :: x :: y :: z :: r).length = L at *
  have tail : ((w.toNat : Int) = 1 ∨ (w.toNat : Int) = 2) → (if ((x.toNat : Int) != 1) = true then some ((1, 4, ()), ()) else (if 0 ≤ (2 : Int) ∧ (2 : Int) ≤ (4 : Int) ∧ (4 : Int) ≤ (L : Int) then ((g_octet_Zero ([y, z], ())).bind fun r4 => (if (!r4.1.1) = true then some ((2, 5, ()), ()) else (if ((L : Int).tmod 20 != 4) = true then some (((L : Int), 2, ()), ()) else some ((0, 0, ()), ())))) else none)) = some (((headG (w :: x :: y :: z :: r)).1, (headG (w :: x :: y :: z :: r)).2, ()), ()) := by
    intro ha
    unfold headG
    rw [hLL, if_neg (show ¬ 65535 < L by omega), if_neg (show ¬ L < 4 by omega), if_neg (show ¬ ¬ (bt (w :: x :: y :: z :: r) 0 = 1 ∨ bt (w :: x :: y :: z :: r) 0 = 2) by rw [e0]; exact fun c => c ha)]
    refine ne_step (fun h => ?_) (fun h1 => ?_)
    · rw [if_pos (show ¬ bt (w :: x :: y :: z :: r) 1 = 1 by rw [e1]; exact h)]
    rw [if_neg (show ¬ ¬ bt (w :: x :: y :: z :: r) 1 = 1 by rw [e1]; exact fun c => c h1), if_pos ⟨by omega, by omega, hL⟩, zero_is (by simp), Option.bind_some]
    refine nb_step (fun h => ?_) (fun hzz => ?_)
    · rw [if_pos (show ¬ (bt (w :: x :: y :: z :: r) 2 = 0 ∧ bt (w :: x :: y :: z :: r) 3 = 0) by rw [e2, e3, ← hz]; dsimp only at h; rw [h]; simp)]
    rw [if_neg (show ¬ ¬ (bt (w :: x :: y :: z :: r) 2 = 0 ∧ bt (w :: x :: y :: z :: r) 3 = 0) by rw [e2, e3]; exact fun c => c (hz.1 hzz)), Int.tmod_eq_emod_of_nonneg (by omega)]
    refine ne_step (fun h => ?_) (fun h5 => ?_)
    · rw [if_pos (show ((L : Int) - 4) % 20 ≠ 0 by omega)]
    · rw [if_neg (show ¬ ((L : Int) - 4) % 20 ≠ 0 by omega)]
  refine ne_step (fun ha => ?_) (fun ha => tail (.inl ha))
  refine ne_step (fun hb => ?_) (fun ha2 => tail (.inr ha2))
  unfold headG
  rw [hLL, if_neg (show ¬ 65535 < L by omega), if_neg (show ¬ L < 4 by omega), if_pos (show ¬ (bt (w :: x :: y :: z :: r) 0 = 1 ∨ bt (w :: x :: y :: z :: r) 0 = 2) by rw [e0]; omega)]
def errN (e : EntN) : Int := if e.metric = 255 then (if e.tag = 0 ∧ e.family = 0 then 0 else 5) else if ¬ preB e.addr e.family = true then 7 else if e.metric < 1 ∨ 16 < e.metric then 6 else 0
def nextN (nx : Bs) (e : EntN) : Bs := if e.metric = 255 then (if linkB e.addr = true then e.addr else z16) else nx
def msgN (c : Int) (nx : Bs) (e : EntN) : Msg := S_api_Msg.mk 2 c 0 [] 0 0 e.addr e.family e.tag nx e.metric [] 0 0 0 0 0 0 0 [] [] [] 0 [] []
def outN (c : Int) (nx : Bs) (e : EntN) : List Msg := if e.metric = 255 then [] else [msgN c nx e]
structure EntKN (e : EntN) : Prop where
  addr : e.addr.length = 16
  tag : 0 ≤ e.tag ∧ e.tag < 65536
  fam : 0 ≤ e.family ∧ e.family < 256
  met : 0 ≤ e.metric ∧ e.metric < 256
theorem entN_ok {s : Bs} (h : s.length = 20) : EntKN (entN s) := by
  have h1 := bt_rng s 18
  have h2 := bt_rng s 19
  have h3 := num_rng (cut_ s 16 2)
  have hl : (cut_ s 16 2).length = 2 := by have := cut_length (s := s) (p := 16) (n := 2) (by omega) (by omega) (by omega); omega
  rw [hl] at h3
  exact ⟨by show (s.take 16).length = 16; rw [List.length_take]; omega, by show 0 ≤ num (cut_ s 16 2) ∧ num (cut_ s 16 2) < 65536; exact ⟨h3.1, by have := h3.2; omega⟩, h1, h2⟩
theorem or_zero {x y : Int} (hx : 0 ≤ x ∧ x < 65536) (hy : 0 ≤ y ∧ y < 256) : ibits .or .i64 x y = 0 ↔ (x = 0 ∧ y = 0) := by
  obtain ⟨a, rfl⟩ : ∃ a : Nat, x = a := ⟨x.toNat, by omega⟩
  obtain ⟨b, rfl⟩ : ∃ b : Nat, y = b := ⟨y.toNat, by omega⟩
  unfold ibits
  show IntKind.wrap .i64 (((BitVec.ofInt 64 (a : Int) ||| BitVec.ofInt 64 (b : Int)).toNat : Nat) : Int) = 0 ↔ _
  have h1 : a ||| b < 2 ^ 16 := Nat.or_lt_two_pow (by omega) (by omega)
  rw [BitVec.toNat_or, BitVec.ofInt_natCast, BitVec.ofInt_natCast, BitVec.toNat_ofNat, BitVec.toNat_ofNat, Nat.mod_eq_of_lt (by omega), Nat.mod_eq_of_lt (by omega), w64 (by omega) (by omega)]
  constructor
  · intro h
    have h0 : a ||| b = 0 := by omega
    rw [Nat.or_eq_zero_iff] at h0
    omega
  · intro h
    have e1 : a = 0 := by omega
    have e2 : b = 0 := by omega
    subst e1; subst e2; rfl
theorem nghop_is {c : Int} {nx : Bs} {out : List Msg} {e : EntN} (h : EntKN e) (hm : e.metric = 255) : g_ripng_reader_hop (⟨c, nx, out⟩, e, ()) = some ((errN e, ()), (⟨c, if errN e = 0 then nextN nx e else nx, out⟩, ())) := by
  rw [g_ripng_reader_hop_eq]
  have hz := or_zero h.tag h.fam
  unfold errN nextN
  rw [if_pos hm, if_pos hm]
  refine ne_step (fun q => ?_) (fun q => ?_)
  · rw [if_neg (fun c => q (hz.2 c))]; try rfl
  · rw [hz] at q
    rw [if_pos q, zeros16, Option.bind_some, link_is, Option.bind_some]
    dsimp only
    cases linkB e.addr <;> rfl
theorem ngentry_is {c : Int} {nx : Bs} {out : List Msg} {e : EntN} (h : EntKN e) (hr : out.length ≤ 10000) : g_ripng_reader_entry (⟨c, nx, out⟩, e, ()) = some ((errN e, ()), (⟨c, if errN e = 0 then nextN nx e else nx, if errN e = 0 then out ++ outN c nx e else out⟩, ())) := by
  rw [g_ripng_reader_entry_eq]
  refine bq_step (fun hm => ?_) (fun hm => ?_)
  · rw [nghop_is h hm, Option.bind_some]
    have : outN c nx e = [] := by unfold outN; rw [if_pos hm]
    rw [this, List.append_nil, ite_self]
  · have hn : nextN nx e = nx := by unfold nextN; rw [if_neg hm]
    have ho : outN c nx e = [msgN c nx e] := by unfold outN; rw [if_neg hm]
    rw [hn, ho, ite_self]
    have hf : IntKind.has .i64 e.family := has64.2 (by have := h.fam; omega)
    rw [pright16_is h.addr hf, Option.bind_some]
    unfold errN
    rw [if_neg hm]
    refine nb_step (fun q => ?_) (fun q => ?_)
    · dsimp only at q
      rw [if_pos (show ¬ preB e.addr e.family = true by rw [q]; simp)]; try rfl
    · dsimp only at q
      rw [if_neg (show ¬ ¬ preB e.addr e.family = true by rw [q]; simp)]
      refine dq_step (fun q1 => ?_) (fun q1 => ?_)
      · rw [if_pos (show e.metric < 1 ∨ 16 < e.metric from .inl q1)]; try rfl
      refine dq_step (fun q2 => ?_) (fun q2 => ?_)
      · rw [if_pos (show e.metric < 1 ∨ 16 < e.metric from .inr q2)]; try rfl
      rw [if_neg (show ¬ (e.metric < 1 ∨ 16 < e.metric) by omega)]
      show (if roomB ((out.length + [msgN c nx e].length) * bo_api_Msg) = true then some ((0, ()), ((S_ripng_reader.mk c nx (out ++ [msgN c nx e])), ())) else none) = _
      rw [if_pos (roomB_of (Nat.le_trans (Nat.mul_le_mul (show out.length + [msgN c nx e].length ≤ 10001 by simp; omega) msgBo) (by decide)))]
      rfl
def goN (c : Int) (b : Bs) : Nat → Nat → Bs → List Msg → List Msg × Int × Int
  | 0, _, _, acc => if acc = [] then ([], b.length, 8) else (acc, 0, 0)
  | k + 1, p, nx, acc => if errN (entN (cut_ b p 20)) ≠ 0 then ([], (p : Int), errN (entN (cut_ b p 20))) else goN c b k (p + 20) (nextN nx (entN (cut_ b p 20))) (acc ++ outN c nx (entN (cut_ b p 20)))
theorem outN_len (c : Int) (nx : Bs) (e : EntN) : (outN c nx e).length ≤ 1 := by unfold outN; split <;> simp
theorem ngparse_loop {n : Nat} {b : Bs} {c : Int} (hb : b.length ≤ 65535) : ∀ (k m p : Nat) (nx : Bs) (acc : List Msg), p + 20 * k = b.length → k < m → acc.length + k ≤ 10000 →
    L_ripng_Parse_0 n m b p c nx acc = some (trip (goN c b k p nx acc), ()) := by
  intro k
  induction k with
  | zero =>
    intro m p nx acc h hm ha
    obtain ⟨m, rfl⟩ : ∃ k, m = k + 1 := ⟨m - 1, by omega⟩
    rw [L_ripng_Parse_0_eq, ifn (by omega), goN]
    refine bq_step (fun q => ?_) (fun q => ?_)
    · rw [if_pos ((len_nil acc).1 q)]; try rfl
    · rw [if_neg (fun q' => q ((len_nil acc).2 q'))]; try rfl
  | succ k ih =>
    intro m p nx acc h hm ha
    obtain ⟨m, rfl⟩ : ∃ k, m = k + 1 := ⟨m - 1, by omega⟩
    have hl : (cut_ b p 20).length = 20 := cut_len (n := 20) (by omega)
    have hol := outN_len c nx (entN (cut_ b p 20))
    rw [L_ripng_Parse_0_eq, ifd (by omega), w64 (by omega) (by omega), if_pos (by omega), show (List.take ((p : Int) + 20).toNat b).drop ((p : Int)).toNat = cut_ b p 20 from rfl, rteget_is hl, Option.bind_some]
    dsimp only
    rw [ngentry_is (entN_ok hl) (by omega), Option.bind_some, goN]
    refine ne_step (fun he => ?_) (fun he => ?_)
    · rw [if_pos he]; try rfl
    · dsimp only at he
      have := ih m (p + 20) (nextN nx (entN (cut_ b p 20))) (acc ++ outN c nx (entN (cut_ b p 20))) (by omega) (by omega) (by rw [List.length_append]; omega)
      rw [show ((p + 20 : Nat) : Int) = (p : Int) + 20 by omega] at this
      rw [if_neg (show ¬ errN (entN (cut_ b p 20)) ≠ 0 by omega), ← this]
      dsimp only
      rw [if_pos he, if_pos he]
noncomputable def parseN (b : Bs) : List Msg × Int × Int := if (headG b).2 ≠ 0 then ([], headG b) else goN (bt b 0) b ((b.length - 4) / 20) 4 z16 []
theorem ngparse_is {b : Bs} (hb : b.length ≤ 1000000000) : g_ripng_Parse (b, ()) = some (trip (parseN b), ()) := by
  show h_ripng_Parse fuel _ = _
  rw [h_ripng_Parse_eq, nghead_is hb, Option.bind_some]
  unfold parseN
  refine ne_step (fun h => ?_) (fun h => ?_)
  · rw [if_pos h]; try rfl
  · dsimp only at h
    obtain ⟨h1, h2, h3, h4, h5, h6, h7⟩ := headG_ok h
    rw [if_neg (show ¬ (headG b).2 ≠ 0 by omega), get_bt (i := 0) (by omega), Option.bind_some, zeros16, Option.bind_some, w64n]
    exact ngparse_loop (n := fuel) h2 ((b.length - 4) / 20) fuel 4 z16 [] (by omega) (fuel_ge (by omega)) (by simp; omega)
end Go.VP
set_option linter.unusedVariables false
set_option linter.unusedSimpArgs false
set_option maxRecDepth 100000
namespace Go.VP
open Go Go.VI
def hopL (nx : Bs) (m : Msg) : Bs := if m.next = nx then [] else entG m.next 0 0 255
def lineN (nx : Bs) (m : Msg) : Bs := hopL nx m ++ entG m.prefix_ m.tag m.plen m.metric
theorem lineN_len {nx : Bs} {m : Msg} (h : NgR m) : (lineN nx m).length = if m.next = nx then 20 else 40 := by
  unfold lineN hopL
  split <;> simp [entG_len h.len, entG_len h.next16]
def encN (c : Int) : List Msg → Nat → Bs → Bs → Bs × Int × Int
  | [], _, acc, _ => (acc, 0, 0)
  | m :: r, i, acc, nx => if m.cmd ≠ c then ([], (i : Int), 7) else if 65535 < (acc ++ lineN nx m).length then ([], (i : Int), 10) else encN c r (i + 1) (acc ++ lineN nx m) m.next
theorem ngput_is {acc nx a : Bs} {t f m : Int} (ha : a.length = 16) (ht : 0 ≤ t ∧ t < 65536) (hf : 0 ≤ f ∧ f < 256) (hm : 0 ≤ m ∧ m < 256) (hl : acc.length ≤ 1000000) :
    g_ripng_writer_put (⟨acc, nx⟩, ⟨f, t, a, [], [], m⟩, ()) = some ((), (⟨acc ++ entG a t f m, nx⟩, ())) := by
  rw [g_ripng_writer_put_eq, rteput_is ha ht hf hm, Option.bind_some]
  dsimp only
  rw [if_pos (roomB_of (by rw [entG_len ha]; omega))]
theorem ngroute_is {acc nx : Bs} {m : Msg} (h : NgR m) (hl : acc.length ≤ 100000) : g_ripng_writer_route (⟨acc, nx⟩, m, ()) = some ((), (⟨acc ++ lineN nx m, m.next⟩, ())) := by
  have hp := h.plen
  have hm := h.metric
  rw [g_ripng_writer_route_eq]
  unfold lineN hopL
  refine nq_step (fun q => ?_) (fun q => ?_)
  · rw [if_neg q, ngput_is h.next16 (by omega) (by omega) (by omega) (by show acc.length ≤ _; omega), Option.bind_some]
    dsimp only
    rw [ngput_is h.len h.tag (by omega) (by omega) (by rw [List.length_append, entG_len h.next16]; omega), Option.bind_some, List.append_assoc]
  · dsimp only at q
    rw [if_pos q, ngput_is h.len h.tag (by omega) (by omega) (by omega), Option.bind_some, q]
    rfl
theorem ngenc_loop {n : Nat} {l : List Msg} {f : Msg} (hf : l[0]? = some f) (hok : ∀ m ∈ l, NgR m) (hl : l.length ≤ 1000000) : ∀ (d m i : Nat) (acc nx : Bs), i + d = l.length → d < m → acc.length ≤ 65535 →
    L_ripng_Encode_1 n m l acc nx i = some (trip (encN f.cmd (l.drop i) i acc nx), ()) := by
  intro d
  induction d with
  | zero =>
    intro m i acc nx hd hm ha
    obtain ⟨m, rfl⟩ : ∃ k, m = k + 1 := ⟨m - 1, by omega⟩
    rw [L_ripng_Encode_1_eq, ifn (by omega), List.drop_eq_nil_of_le (by omega)]; try rfl
  | succ d ih =>
    intro m i acc nx hd hm ha
    obtain ⟨m, rfl⟩ : ∃ k, m = k + 1 := ⟨m - 1, by omega⟩
    have hi : i < l.length := by omega
    have ho := hok _ (List.getElem_mem hi)
    rw [L_ripng_Encode_1_eq, ifd (by omega), if_pos (by omega), Int.toNat_natCast, bind_at hi, hf, Option.bind_some, List.drop_eq_getElem_cons hi, encN, ngroute_is ho (by omega), Option.bind_some]
    refine ne_step (fun h => ?_) (fun h => ?_)
    · rw [if_pos h]; try rfl
    rw [if_neg (show ¬ l[i].cmd ≠ f.cmd from fun c => c h)]
    refine dq_step (fun h => ?_) (fun h => ?_)
    · rw [if_pos (show 65535 < (acc ++ lineN nx l[i]).length by dsimp only at h; omega)]; try rfl
    · dsimp only at h
      have := ih m (i + 1) (acc ++ lineN nx l[i]) l[i].next (by omega) (by omega) (by omega)
      rw [show ((i + 1 : Nat) : Int) = (i : Int) + 1 by omega] at this
      rw [if_neg (show ¬ 65535 < (acc ++ lineN nx l[i]).length by omega), w64 (by omega) (by omega)]
      exact this
def badP (f : Msg → Bool) : List Msg → Nat → Option Nat
  | [], _ => none
  | m :: r, i => if f m = true then badP f r (i + 1) else some i
theorem badP_none {f : Msg → Bool} : ∀ {l : List Msg} {i : Nat}, badP f l i = none → ∀ m ∈ l, f m = true
  | [], _, _, m, hm => by cases hm
  | x :: r, i, h, m, hm => by
    unfold badP at h
    split at h
    · rename_i hx
      rcases List.mem_cons.1 hm with rfl | hm
      · exact hx
      · exact badP_none h m hm
    · cases h
theorem badP_ok {f : Msg → Bool} : ∀ {l : List Msg} {i : Nat}, (∀ m ∈ l, f m = true) → badP f l i = none
  | [], _, _ => rfl
  | x :: r, i, h => by
    unfold badP; rw [if_pos (h x (by simp))]; exact badP_ok (fun m hm => h m (by simp [hm]))
noncomputable def encNg (l : List Msg) : Bs × Int × Int := match badP ngB l 0 with
  | some i => ([], (i : Int), 1)
  | none => match l with
    | [] => ([], 0, 8)
    | f :: _ => encN f.cmd l 0 [u8of f.cmd, 1, 0, 0] z16
theorem ngenc_is {l : List Msg} (g : ∀ m ∈ l, GoodG m) (hl : l.length ≤ 1000000) : g_ripng_Encode (l, ()) = some (trip (encNg l), ()) := by
  show h_ripng_Encode fuel (l, ()) = _
  rw [h_ripng_Encode_eq]
  have main : ∀ (d m i : Nat), i + d = l.length → d < m → badP ngB l 0 = badP ngB (l.drop i) i → L_ripng_Encode_0 fuel m l i = some (trip (encNg l), ()) := by
    intro d
    induction d with
    | zero =>
      intro m i hd hm hb
      obtain ⟨m, rfl⟩ : ∃ k, m = k + 1 := ⟨m - 1, by omega⟩
      rw [List.drop_eq_nil_of_le (by omega)] at hb
      have hn : badP ngB l 0 = none := hb
      have hok := badP_none hn
      rw [L_ripng_Encode_0_eq, ifn (by omega)]
      cases l with
      | nil => rfl
      | cons f r =>
        have hf := ngR_iff.1 (hok f (by simp))
        have he : encNg (f :: r) = encN f.cmd (f :: r) 0 [u8of f.cmd, 1, 0, 0] z16 := by unfold encNg; rw [hn]
        have L := ngenc_loop (n := fuel) (f := f) (l := f :: r) rfl (fun m hm => ngR_iff.1 (hok m hm)) hl (f :: r).length fuel 0 [u8of f.cmd, 1, 0, 0] z16 (by omega) (fuel_ge (by omega)) (by simp)
        have hc := hf.cmd
        rw [he, if_neg (by simp; omega), show (f :: r)[0]? = some f from rfl, Option.bind_some, zeros16, Option.bind_some, wu8, u8of_emod' (by omega)]
        exact L
    | succ d ih =>
      intro m i hd hm hb
      obtain ⟨m, rfl⟩ : ∃ k, m = k + 1 := ⟨m - 1, by omega⟩
      have hi : i < l.length := by omega
      rw [List.drop_eq_getElem_cons hi, badP] at hb
      rw [L_ripng_Encode_0_eq, ifd (by omega), if_pos (by omega), Int.toNat_natCast, bind_at hi, ngright_is (g _ (List.getElem_mem hi)), Option.bind_some]
      dsimp only
      cases ho : ngB l[i] with
      | true =>
        rw [if_pos ho] at hb
        have := ih m (i + 1) (by omega) (by omega) hb
        rw [ifnt, w64 (by omega) (by omega)]
        exact this
      | false =>
        rw [if_neg (by rw [ho]; simp)] at hb
        rw [ifnf]
        unfold encNg; rw [hb]; try rfl
  exact main l.length fuel 0 (by omega) (fuel_ge (by omega)) rfl
end Go.VP
set_option linter.unusedVariables false
set_option linter.unusedSimpArgs false
set_option maxRecDepth 100000
namespace Go.VP
open Go Go.VI
def entM2 (m : Msg) : EntN := ⟨m.plen, m.tag, m.prefix_, [], [], m.metric⟩
theorem NgR.is {m : Msg} (h : NgR m) : m = msgN m.cmd m.next (entM2 m) := by
  have hb := h.bare
  unfold bareB bareOf at hb
  rw [if_neg (by have := h.kind; omega), if_pos h.kind] at hb
  have := (eqB_true.1 hb).symm
  rw [h.kind] at this
  exact this
theorem cut_drop (b : Bs) (p k : Nat) : cut_ b p (k : Int) = (b.drop p).take k := by
  unfold cut_
  rw [show ((p : Int) + (k : Int)).toNat = p + k by omega, Int.toNat_natCast, List.drop_take]
  congr 1
  omega
theorem entN_G {a : Bs} {t f m : Int} (ha : a.length = 16) (ht : 0 ≤ t ∧ t < 65536) (hf : 0 ≤ f ∧ f < 256) (hm : 0 ≤ m ∧ m < 256) : entN (entG a t f m) = ⟨f, t, a, [], [], m⟩ := by
  have h2 : (be 2 t).length = 2 := be_length 2 t
  have e1 : bt (entG a t f m) 18 = f := by
    unfold bt entG
    rw [List.getElem?_append_right (by omega), List.getElem?_append_right (by omega), ha, h2]
    show (((u8of f)).toNat : Int) = f
    rw [u8of_int]; omega
  have e2 : bt (entG a t f m) 19 = m := by
    unfold bt entG
    rw [List.getElem?_append_right (by omega), List.getElem?_append_right (by omega), ha, h2]
    show (((u8of m)).toNat : Int) = m
    rw [u8of_int]; omega
  have e3 : num (cut_ (entG a t f m) 16 2) = t := by
    have := cut_drop (entG a t f m) 16 2
    rw [show ((16 : Nat) : Int) = 16 from rfl, show ((2 : Nat) : Int) = 2 from rfl] at this
    rw [this]
    unfold entG
    rw [show List.drop 16 (a ++ (be 2 t ++ [u8of f, u8of m])) = be 2 t ++ [u8of f, u8of m] by rw [← ha, List.drop_left], List.take_left' h2]
    exact num_be 2 t ht.1 (by omega)
  have e4 : (entG a t f m).take 16 = a := by unfold entG; rw [← ha, List.take_left]
  unfold entN
  rw [e1, e2, e3, e4]
def linesN : Bs → List Msg → Bs
  | _, [] => []
  | nx, m :: r => lineN nx m ++ linesN m.next r
theorem goN_route {c : Int} {b rest : Bs} {p k : Nat} {m : Msg} {acc : List Msg} (h : NgR m) (hc : m.cmd = c) (hd : b.drop p = entG m.prefix_ m.tag m.plen m.metric ++ rest) : goN c b (k + 1) p m.next acc = goN c b k (p + 20) m.next (acc ++ [m]) ∧ b.drop (p + 20) = rest := by
  have hl := entG_len h.len m.tag m.plen m.metric
  have hp := h.plen
  have hme := h.metric
  have e : cut_ b p 20 = entG m.prefix_ m.tag m.plen m.metric := by
    rw [show (20 : Int) = ((20 : Nat) : Int) from rfl, cut_drop, hd, List.take_left' hl]
  have he : entN (cut_ b p 20) = entM2 m := by rw [e]; exact entN_G h.len h.tag (by omega) (by omega)
  have hm : (entM2 m).metric ≠ 255 := by show m.metric ≠ 255; omega
  have h0 : errN (entM2 m) = 0 := by
    unfold errN
    rw [if_neg hm, if_neg (fun q => q h.pre), if_neg (show ¬ ((entM2 m).metric < 1 ∨ 16 < (entM2 m).metric) by show ¬ (m.metric < 1 ∨ 16 < m.metric); omega)]
  have ho : outN c m.next (entM2 m) = [m] := by
    unfold outN
    rw [if_neg hm, ← hc, ← h.is]
  have hn : nextN m.next (entM2 m) = m.next := by unfold nextN; rw [if_neg hm]
  refine ⟨?_, by rw [← List.drop_drop, hd, List.drop_left' hl]⟩
  rw [goN, he, if_neg (fun q => q h0), ho, hn]
theorem goN_hop {c : Int} {b rest nx : Bs} {p k : Nat} {m : Msg} {acc : List Msg} (h : NgR m) (hd : b.drop p = entG m.next 0 0 255 ++ rest) : goN c b (k + 1) p nx acc = goN c b k (p + 20) m.next acc ∧ b.drop (p + 20) = rest := by
  have hl := entG_len h.next16 0 0 255
  have e : cut_ b p 20 = entG m.next 0 0 255 := by
    rw [show (20 : Int) = ((20 : Nat) : Int) from rfl, cut_drop, hd, List.take_left' hl]
  have he : entN (cut_ b p 20) = ⟨0, 0, m.next, [], [], 255⟩ := by rw [e]; exact entN_G h.next16 (by omega) (by omega) (by omega)
  have h0 : errN ⟨0, 0, m.next, [], [], 255⟩ = 0 := by unfold errN; rw [if_pos rfl, if_pos ⟨rfl, rfl⟩]
  have ho : outN c nx ⟨0, 0, m.next, [], [], 255⟩ = [] := by unfold outN; rw [if_pos rfl]
  have hn : nextN nx ⟨0, 0, m.next, [], [], 255⟩ = m.next := by
    unfold nextN
    rw [if_pos rfl]
    rcases h.next with q | q
    · dsimp only; rw [q]; split <;> rfl
    · exact if_pos q
  refine ⟨?_, by rw [← List.drop_drop, hd, List.drop_left' hl]⟩
  rw [goN, he, if_neg (fun q => q h0), ho, hn, List.append_nil]
theorem linesN_len : ∀ {l : List Msg} {nx : Bs}, (∀ m ∈ l, NgR m) → ∃ k, (linesN nx l).length = 20 * k ∧ l.length ≤ k
  | [], _, _ => ⟨0, rfl, Nat.le_refl _⟩
  | m :: r, nx, h => by
    obtain ⟨k, hk, hr⟩ := linesN_len (nx := m.next) fun x hx => h x (List.mem_cons_of_mem _ hx)
    have := lineN_len (nx := nx) (h m (List.mem_cons_self ..))
    by_cases hn : m.next = nx
    · rw [if_pos hn] at this
      exact ⟨k + 1, by unfold linesN; rw [List.length_append, this, hk]; omega, by simp; omega⟩
    · rw [if_neg hn] at this
      exact ⟨k + 2, by unfold linesN; rw [List.length_append, this, hk]; omega, by simp; omega⟩
theorem goN_lines {c : Int} {b : Bs} : ∀ (l : List Msg) (k p : Nat) (nx : Bs) (acc : List Msg), b.drop p = linesN nx l → p + 20 * k = b.length → (∀ m ∈ l, NgR m ∧ m.cmd = c) →
    goN c b k p nx acc = if acc ++ l = [] then ([], (b.length : Int), 8) else (acc ++ l, 0, 0) := by
  intro l
  induction l with
  | nil =>
    intro k p nx acc hd hk _
    have := congrArg List.length hd
    rw [List.length_drop] at this
    have hk0 : k = 0 := by unfold linesN at this; simp at this; omega
    subst hk0
    rw [goN, List.append_nil]
  | cons m r ih =>
    intro k p nx acc hd hk h
    obtain ⟨hm, hc⟩ := h m (List.mem_cons_self ..)
    have hlen := congrArg List.length hd
    rw [List.length_drop] at hlen
    unfold linesN at hd hlen
    rw [List.length_append, lineN_len hm] at hlen
    have hr := fun x hx => h x (List.mem_cons_of_mem _ hx)
    have e : acc ++ m :: r = (acc ++ [m]) ++ r := by simp
    unfold lineN hopL at hd
    by_cases hn : m.next = nx
    · rw [if_pos hn] at hd hlen
      obtain ⟨k, rfl⟩ : ∃ j, k = j + 1 := ⟨k - 1, by omega⟩
      obtain ⟨h1, h2⟩ := goN_route (k := k) (acc := acc) hm hc hd
      rw [← hn, h1, ih k (p + 20) m.next (acc ++ [m]) h2 (by omega) hr, e]
    · rw [if_neg hn] at hd hlen
      obtain ⟨k, rfl⟩ : ∃ j, k = j + 2 := ⟨k - 2, by omega⟩
      rw [List.append_assoc] at hd
      obtain ⟨h1, h2⟩ := goN_hop (c := c) (nx := nx) (k := k + 1) (acc := acc) hm hd
      obtain ⟨h3, h4⟩ := goN_route (k := k) (acc := acc) hm hc h2
      rw [h1, h3, ih k (p + 20 + 20) m.next (acc ++ [m]) h4 (by omega) hr, e]
theorem encN_ok {c : Int} : ∀ {l : List Msg} {i : Nat} {acc nx : Bs}, (encN c l i acc nx).2.2 = 0 → (∀ m ∈ l, m.cmd = c) ∧ encN c l i acc nx = (acc ++ linesN nx l, 0, 0) ∧ (acc.length ≤ 65535 → (acc ++ linesN nx l).length ≤ 65535)
  | [], i, acc, nx, _ => ⟨(fun m hm => by cases hm), by simp [encN, linesN], by simp [linesN]⟩
  | m :: r, i, acc, nx, h => by
    unfold encN at h ⊢
    by_cases h1 : m.cmd ≠ c
    · rw [if_pos h1] at h; cases h
    by_cases h2 : 65535 < (acc ++ lineN nx m).length
    · rw [if_neg h1, if_pos h2] at h; cases h
    rw [if_neg h1, if_neg h2] at h ⊢
    obtain ⟨k1, k2, k3⟩ := encN_ok h
    rw [List.append_assoc] at k2 k3
    exact ⟨fun x hx => by rcases List.mem_cons.1 hx with rfl | hx; exact Classical.byContradiction h1; exact k1 x hx, k2, fun _ => k3 (by omega)⟩
theorem ng_right {l : List Msg} (h : (encNg l).2.2 = 0) : (∀ m ∈ l, NgR m) ∧ l ≠ [] := by
  unfold encNg at h
  split at h
  · cases h
  · rename_i hb
    cases l with
    | nil => cases h
    | cons f r => exact ⟨fun m hm => ngR_iff.1 (badP_none hb m hm), by simp⟩
theorem ng_is {f : Msg} {r : List Msg} (h : ∀ m ∈ f :: r, NgR m) : encNg (f :: r) = encN f.cmd (f :: r) 0 [u8of f.cmd, 1, 0, 0] z16 := by
  unfold encNg
  rw [badP_ok fun m hm => ngR_iff.2 (h m hm)]
theorem headG_fine {c : Int} {x : Bs} {k : Nat} (hc : c = 1 ∨ c = 2) (hx : x.length = 20 * k) (hl : 4 + x.length ≤ 65535) : headG ([u8of c, 1, 0, 0] ++ x) = (0, 0) ∧ bt ([u8of c, 1, 0, 0] ++ x) 0 = c := by
  have e0 : bt ([u8of c, 1, 0, 0] ++ x) 0 = c := by
    show ((u8of c).toNat : Int) = c
    rw [u8of_int]; omega
  have e1 : bt ([u8of c, 1, 0, 0] ++ x) 1 = 1 := rfl
  have e2 : bt ([u8of c, 1, 0, 0] ++ x) 2 = 0 := rfl
  have e3 : bt ([u8of c, 1, 0, 0] ++ x) 3 = 0 := rfl
  have hL : ([u8of c, 1, 0, 0] ++ x).length = 4 + x.length := by simp; omega
  refine ⟨?_, e0⟩
  unfold headG
  rw [hL, e0, e1, e2, e3, if_neg (by omega), if_neg (by omega), if_neg (by omega), if_neg (by omega), if_neg (by omega), if_neg (by omega)]
theorem ng_back {l : List Msg} (h : (encNg l).2.2 = 0) : parseN (encNg l).1 = (l, 0, 0) ∧ (encNg l).1.length ≤ 65535 := by
  obtain ⟨hr, hne⟩ := ng_right h
  cases l with
  | nil => exact absurd rfl hne
  | cons f r =>
    rw [ng_is hr] at h ⊢
    obtain ⟨h1, h2, h3⟩ := encN_ok h
    have h3 := h3 (by simp)
    rw [h2]
    dsimp only
    obtain ⟨k, hk, _⟩ := linesN_len (nx := z16) hr
    rw [List.length_append] at h3
    obtain ⟨g1, g2⟩ := headG_fine (hr f (by simp)).cmd hk (by simp at h3; omega)
    have hL : ([u8of f.cmd, 1, 0, 0] ++ linesN z16 (f :: r)).length = 4 + 20 * k := by rw [List.length_append, hk]; rfl
    refine ⟨?_, by rw [List.length_append]; exact h3⟩
    unfold parseN
    rw [g1, g2, if_neg (by simp), hL, show (4 + 20 * k - 4) / 20 = k by omega]
    have := goN_lines (c := f.cmd) (b := [u8of f.cmd, 1, 0, 0] ++ linesN z16 (f :: r)) (f :: r) k 4 z16 [] rfl (by rw [hL]) (fun m hm => ⟨hr m hm, h1 m hm⟩)
    rw [this, if_neg (by simp)]
    rfl
end Go.VP
set_option linter.unusedVariables false
set_option linter.unusedSimpArgs false
set_option maxRecDepth 100000
namespace Go.VP
open Go Go.VI
def W32 (n : Int) : Prop := 0 ≤ n ∧ n < 4294967296
def W8 (n : Int) : Prop := 0 ≤ n ∧ n < 256
theorem fitsB4 {n : Int} : fitsB n 4 = true ↔ W32 n := by simp [fitsB, W32]
theorem fitsB1 {n : Int} : fitsB n 1 = true ↔ W8 n := by simp [fitsB, W8]
theorem pf4 {n : Int} (h : IntKind.has .i64 n) : g_octet_Fits (n, 4, ()) = some ((fitsB n 4, ()), ()) := fits_is (k := 4) h (by omega) (by omega)
theorem pf1 {n : Int} (h : IntKind.has .i64 n) : g_octet_Fits (n, 1, ()) = some ((fitsB n 1, ()), ()) := fits_is (k := 1) h (by omega) (by omega)
structure RqR (m : Msg) : Prop where
  kind : m.kind = 3
  bare : bareB m = true
  flags : 0 ≤ m.flags ∧ m.flags ≤ 31
  addr : m.addr.length = 4
  orig : m.orig.length = 4
  nonce : W32 m.nonce
  seq : W32 m.seq
  seq2 : W32 m.seq2
  hops : W8 m.hops
  subs : extB m.subs = true
structure RpR (m : Msg) : Prop where
  kind : m.kind = 4
  bare : bareB m = true
  flags : 0 ≤ m.flags ∧ m.flags ≤ 3
  plen : 0 ≤ m.plen ∧ m.plen ≤ 31
  addr : m.addr.length = 4
  orig : m.orig.length = 4
  seq : W32 m.seq
  life : W32 m.interval
  hops : W8 m.hops
  subs : extB m.subs = true
structure AkR (m : Msg) : Prop where
  kind : m.kind = 6
  bare : bareB m = true
  subs : extB m.subs = true
def destB (d : Dest) : Bool := decide (d.addr.length = 4) && fitsB d.seq 4
structure ReR (m : Msg) : Prop where
  kind : m.kind = 5
  bare : bareB m = true
  flags : m.flags = 0 ∨ m.flags = 1
  len : 1 ≤ m.list.length ∧ m.list.length ≤ 255
  list : m.list.all destB = true
  subs : extB m.subs = true
open Classical in
noncomputable def rqB (m : Msg) : Bool := decide (RqR m)
open Classical in
noncomputable def rpB (m : Msg) : Bool := decide (RpR m ∨ AkR m)
open Classical in
noncomputable def reB (m : Msg) : Bool := decide (ReR m)
theorem rqB_iff {m : Msg} : rqB m = true ↔ RqR m := by simp [rqB]
theorem rpB_iff {m : Msg} : rpB m = true ↔ (RpR m ∨ AkR m) := by simp [rpB]
theorem reB_iff {m : Msg} : reB m = true ↔ ReR m := by simp [reB]
theorem b_eq {a b : Bool} (h : a = true ↔ b = true) : a = b := by cases a <;> cases b <;> simp_all
theorem b_no {b : Bool} (h : ¬ b = true) : b = false := by cases b <;> simp_all
structure GoodV (m : Msg) : Prop where
  nonce : IntKind.has .i64 m.nonce
  seq : IntKind.has .i64 m.seq
  seq2 : IntKind.has .i64 m.seq2
  hops : IntKind.has .i64 m.hops
  life : IntKind.has .i64 m.interval
  list : m.list.length ≤ 1000000
  ds : ∀ d ∈ m.list, IntKind.has .i64 d.seq
  subs : FewS m.subs
  subs1 : m.subs.length ≤ 1000000
theorem rq_loop {n k : Nat} {m : Msg} (g : GoodV m) : L_rreq_Right_0 n (k + 4) m [m.nonce, m.seq, m.seq2] 3 0 = some ((fitsB m.nonce 4 && (fitsB m.seq 4 && (fitsB m.seq2 4 && (fitsB m.hops 1 && extB m.subs))), ()), ()) := by
  rw [L_rreq_Right_0_eq, ifd (by decide), if_pos (by decide), show ([m.nonce, m.seq, m.seq2])[(0 : Int).toNat]? = some m.nonce from rfl, Option.bind_some, pf4 g.nonce, Option.bind_some]
  dsimp only
  cases fitsB m.nonce 4 with
  | false => rfl
  | true =>
    rw [ifnt, show IntKind.wrap .i64 ((0 : Int) + 1) = 1 from rfl, L_rreq_Right_0_eq, ifd (by decide), if_pos (by decide), show ([m.nonce, m.seq, m.seq2])[(1 : Int).toNat]? = some m.seq from rfl, Option.bind_some, pf4 g.seq, Option.bind_some]
    dsimp only
    cases fitsB m.seq 4 with
    | false => rfl
    | true =>
      rw [ifnt, show IntKind.wrap .i64 ((1 : Int) + 1) = 2 from rfl, L_rreq_Right_0_eq, ifd (by decide), if_pos (by decide), show ([m.nonce, m.seq, m.seq2])[(2 : Int).toNat]? = some m.seq2 from rfl, Option.bind_some, pf4 g.seq2, Option.bind_some]
      dsimp only
      cases fitsB m.seq2 4 with
      | false => rfl
      | true =>
        rw [ifnt, show IntKind.wrap .i64 ((2 : Int) + 1) = 3 from rfl, L_rreq_Right_0_eq, ifn (by decide), pf1 g.hops, Option.bind_some]
        dsimp only
        cases fitsB m.hops 1 with
        | false => rfl
        | true => rw [ift, eright_is g.subs.1]; rfl
theorem rqB_all {m : Msg} (hk : m.kind = 3) (hb : bareB m = true) (h0 : 0 ≤ m.flags) (h1 : m.flags ≤ 31) (ha : m.addr.length = 4) (ho : m.orig.length = 4) : rqB m = (fitsB m.nonce 4 && (fitsB m.seq 4 && (fitsB m.seq2 4 && (fitsB m.hops 1 && extB m.subs)))) := by
  apply b_eq
  simp only [Bool.and_eq_true, rqB_iff, fitsB4, fitsB1]
  exact ⟨fun h => ⟨h.nonce, h.seq, h.seq2, h.hops, h.subs⟩, fun ⟨a, b, c, d, e⟩ => ⟨hk, hb, ⟨h0, h1⟩, ha, ho, a, b, c, d, e⟩⟩
theorem rqright_is {m : Msg} (g : GoodV m) : g_rreq_Right (m, ()) = some ((rqB m, ()), ()) := by
  show h_rreq_Right fuel _ = _
  have no : ¬ RqR m → (some ((false, ()), ()) : Option ((Bool × Unit) × Unit)) = some ((rqB m, ()), ()) := fun h => by rw [b_no (fun q => h (rqB_iff.1 q))]
  rw [h_rreq_Right_eq]
  refine ne_step (fun q => no (fun h => q h.kind)) (fun hk => ?_)
  rw [bare_is, Option.bind_some]
  refine nb_step (fun q => no (fun h => by have := h.bare; dsimp only at q; rw [q] at this; cases this)) (fun hb => ?_)
  refine dq_step (fun q => no (fun h => by have := h.flags; omega)) (fun h0 => ?_)
  refine dq_step (fun q => no (fun h => by have := h.flags; omega)) (fun h1 => ?_)
  refine ne_step (fun q => no (fun h => by have := h.addr; omega)) (fun ha => ?_)
  refine ne_step (fun q => no (fun h => by have := h.orig; omega)) (fun ho => ?_)
  have hf := fuel_ge (n := 4) (by omega)
  have := rq_loop (n := fuel) (k := fuel - 4) g
  rw [show fuel - 4 + 4 = fuel by omega] at this
  rw [rqB_all hk hb (by omega) (by omega) (by omega) (by omega)]
  exact this
theorem rpB_all {m : Msg} (hk : m.kind = 4) (hb : bareB m = true) (hs : extB m.subs = true) (h0 : 0 ≤ m.flags) (h1 : m.flags ≤ 3) (h2 : 0 ≤ m.plen) (h3 : m.plen ≤ 31) (c1 : fitsB m.hops 1 = true) (c2 : fitsB m.seq 4 = true) (c3 : fitsB m.interval 4 = true) (ha : m.addr.length = 4) : rpB m = ((m.orig.length : Int) == 4) := by
  apply b_eq
  simp only [rpB_iff, beq_iff_eq]
  constructor
  · rintro (h | h)
    · have := h.orig; omega
    · have := h.kind; omega
  · intro ho
    exact .inl ⟨hk, hb, ⟨h0, h1⟩, ⟨h2, h3⟩, ha, by omega, fitsB4.1 c2, fitsB4.1 c3, fitsB1.1 c1, hs⟩
theorem rpright_is {m : Msg} (g : GoodV m) : g_rrep_Right (m, ()) = some ((rpB m, ()), ()) := by
  have no : ¬ RpR m → ¬ AkR m → (some ((false, ()), ()) : Option ((Bool × Unit) × Unit)) = some ((rpB m, ()), ()) := fun h h2 => by rw [b_no (fun q => (rpB_iff.1 q).elim h h2)]
  rw [g_rrep_Right_eq, bare_is, Option.bind_some]
  dsimp only
  cases hb : bareB m with
  | false => exact no (fun h => by have := h.bare; rw [hb] at this; cases this) (fun h => by have := h.bare; rw [hb] at this; cases this)
  | true =>
    rw [ifnt, eright_is g.subs.1, Option.bind_some]
    dsimp only
    cases hs : extB m.subs with
    | false => exact no (fun h => by have := h.subs; rw [hs] at this; cases this) (fun h => by have := h.subs; rw [hs] at this; cases this)
    | true =>
      rw [ifnt]
      refine bq_step (fun hk => by rw [rpB_iff.2 (.inr ⟨hk, hb, hs⟩)]) (fun hk6 => ?_)
      have no' : ¬ RpR m → (some ((false, ()), ()) : Option ((Bool × Unit) × Unit)) = some ((rpB m, ()), ()) := fun h => no h (fun q => hk6 q.kind)
      refine bq_step (fun hk => ?_) (fun q => no' (fun h => q h.kind))
      refine dq_step' (fun h0 => ?_) (fun q => no' (fun h => by have := h.flags; omega))
      refine dq_step' (fun h1 => ?_) (fun q => no' (fun h => by have := h.flags; omega))
      refine dq_step' (fun h2 => ?_) (fun q => no' (fun h => by have := h.plen; omega))
      refine dq_step' (fun h3 => ?_) (fun q => no' (fun h => by have := h.plen; omega))
      rw [pf1 g.hops, Option.bind_some, pf4 g.seq, Option.bind_some, pf4 g.life, Option.bind_some]
      dsimp only
      cases c1 : fitsB m.hops 1 with
      | false => exact no' (fun h => by have := fitsB1.2 h.hops; rw [c1] at this; cases this)
      | true => cases c2 : fitsB m.seq 4 with
        | false => exact no' (fun h => by have := fitsB4.2 h.seq; rw [c2] at this; cases this)
        | true => cases c3 : fitsB m.interval 4 with
          | false => exact no' (fun h => by have := fitsB4.2 h.life; rw [c3] at this; cases this)
          | true =>
            rw [ift, ift, ift]
            refine bq_step (fun ha => ?_) (fun q => no' (fun h => by have := h.addr; omega))
            rw [rpB_all hk hb hs h0 (by omega) h2 (by omega) c1 c2 c3 (by omega)]
end Go.VP
set_option linter.unusedVariables false
set_option linter.unusedSimpArgs false
set_option maxRecDepth 100000
namespace Go.VP
open Go Go.VI
theorem re_loop {n : Nat} {m : Msg} (g : GoodV m) : ∀ (d k i : Nat), i + d = m.list.length → d < k → L_rerr_Right_0 n k m i = some (((m.list.drop i).all destB && extB m.subs, ()), ()) := by
  have gl := g.list
  intro d
  induction d with
  | zero =>
    intro k i hd hk
    obtain ⟨k, rfl⟩ : ∃ j, k = j + 1 := ⟨k - 1, by omega⟩
    rw [L_rerr_Right_0_eq, ifn (by omega), List.drop_eq_nil_of_le (by omega), eright_is g.subs.1]; rfl
  | succ d ih =>
    intro k i hd hk
    obtain ⟨k, rfl⟩ : ∃ j, k = j + 1 := ⟨k - 1, by omega⟩
    have hi : i < m.list.length := by omega
    have := ih k (i + 1) (by omega) (by omega)
    rw [show ((i + 1 : Nat) : Int) = (i : Int) + 1 by omega] at this
    rw [L_rerr_Right_0_eq, ifd (by omega), if_pos (by omega), Int.toNat_natCast, bind_at hi, pf4 (g.ds _ (List.getElem_mem hi)), Option.bind_some, w64 (by omega) (by omega), this, List.drop_eq_getElem_cons hi, List.all_cons]
    unfold destB
    refine ne_step (fun q => ?_) (fun q => ?_)
    · rw [decide_eq_false (by omega)]; rfl
    · rw [decide_eq_true (by omega)]
      dsimp only
      cases fitsB m.list[i].seq 4 <;> rfl
theorem reB_all {m : Msg} (hk : m.kind = 5) (hb : bareB m = true) (hf : m.flags = 0 ∨ m.flags = 1) (hl : 1 ≤ m.list.length ∧ m.list.length ≤ 255) : reB m = (m.list.all destB && extB m.subs) := by
  apply b_eq
  simp only [Bool.and_eq_true, reB_iff]
  exact ⟨fun h => ⟨h.list, h.subs⟩, fun ⟨a, b⟩ => ⟨hk, hb, hf, hl, a, b⟩⟩
theorem errright_is {m : Msg} (g : GoodV m) : g_rerr_Right (m, ()) = some ((reB m, ()), ()) := by
  show h_rerr_Right fuel _ = _
  have no : ¬ ReR m → (some ((false, ()), ()) : Option ((Bool × Unit) × Unit)) = some ((reB m, ()), ()) := fun h => by rw [b_no (fun q => h (reB_iff.1 q))]
  rw [h_rerr_Right_eq]
  refine ne_step (fun q => no (fun h => q h.kind)) (fun hk => ?_)
  rw [bare_is, Option.bind_some]
  refine nb_step (fun q => no (fun h => by have := h.bare; dsimp only at q; rw [q] at this; cases this)) (fun hb => ?_)
  have tail : (m.flags = 0 ∨ m.flags = 1) → (if ((m.list.length : Int) == 0) = true then some ((false, ()), ()) else (if (decide (255 < (m.list.length : Int))) = true then some ((false, ()), ()) else (L_rerr_Right_0 fuel fuel m 0))) = some ((reB m, ()), ()) := by
    intro hf
    refine bq_step (fun q => no (fun h => by have := h.len; omega)) (fun h0 => ?_)
    refine dq_step (fun q => no (fun h => by have := h.len; omega)) (fun h1 => ?_)
    rw [reB_all hk hb hf (by omega)]
    have := re_loop (n := fuel) g m.list.length fuel 0 (by omega) (fuel_ge (by omega))
    rw [List.drop_zero] at this
    exact this
  refine ne_step (fun q => ?_) (fun q => tail (.inl q))
  exact ne_step (fun q2 => no (fun h => by have := h.flags; omega)) (fun q2 => tail (.inr q2))
def rqBytes (m : Msg) : Bs := [1, u8of (8 * m.flags), 0, u8of m.hops] ++ (be 4 m.nonce ++ (m.addr ++ (be 4 m.seq ++ (m.orig ++ (be 4 m.seq2 ++ encS m.subs)))))
def rpBytes (m : Msg) : Bs := [2, u8of (64 * m.flags), u8of m.plen, u8of m.hops] ++ (m.addr ++ (be 4 m.seq ++ (m.orig ++ (be 4 m.interval ++ encS m.subs))))
def akBytes (m : Msg) : Bs := [4, 0] ++ encS m.subs
def dests : List Dest → Bs
  | [] => []
  | d :: l => (d.addr ++ be 4 d.seq) ++ dests l
def reBytes (m : Msg) : Bs := [3, u8of (128 * m.flags), 0, u8of m.list.length] ++ (dests m.list ++ encS m.subs)
theorem W32.has {n : Int} (h : W32 n) : IntKind.has .i64 n := has64.2 ⟨by have := h.1; omega, by have := h.2; omega⟩
theorem pp4 {n : Int} (h : W32 n) : g_octet_Put (n, 4, ()) = some ((be 4 n, true, ()), ()) := oput_is (k := 4) h.has (by omega) (by omega) (fitsB4.2 h)
theorem word_is {n : Int} (h : W32 n) : g_rreq_word (n, ()) = some ((be 4 n, ()), ()) := by
  rw [g_rreq_word_eq, pp4 h]; rfl
theorem shl_u8 {x : Int} {k : Nat} (hx : 0 ≤ x ∧ x < 65536) (hk : k ≤ 15) : u8of (IntKind.wrap .u8 (ishl .i64 x (k : Int))) = u8of (2 ^ k * x) := by
  rw [ishl_ok hx hk, wu8, u8of_emod']
  exact Int.mul_nonneg (Int.pow_nonneg (by decide)) hx.1
theorem enc_len {m : Msg} (g : GoodV m) : (encS m.subs).length ≤ 302000000 := by
  have h := sumN_rng g.subs
  have := encS_length m.subs
  have := g.subs1
  omega
theorem u8x {x : Int} (h : 0 ≤ x) : u8of (IntKind.wrap .u8 x) = u8of x := by rw [wu8, u8of_emod' h]
noncomputable def rqPut (m : Msg) : Bs × Bool := if rqB m = true then (rqBytes m, true) else ([], false)
theorem rqput_is {m : Msg} (g : GoodV m) : g_rreq_Put (m, ()) = some (((rqPut m).1, (rqPut m).2, ()), ()) := by
  have hl := enc_len g
  rw [g_rreq_Put_eq, rqright_is g, Option.bind_some]
  unfold rqPut
  dsimp only
  cases hr : rqB m with
  | false => rfl
  | true =>
    have h := rqB_iff.1 hr
    have ha := h.addr
    have ho := h.orig
    have b4 : ∀ n, (be 4 n).length = 4 := be_length 4
    rw [ifnt, ift, eput_is g.subs g.subs1, Option.bind_some, putE_ok h.subs, word_is h.nonce, Option.bind_some, word_is h.seq, Option.bind_some, word_is h.seq2, Option.bind_some]
    dsimp only
    rw [show ((3 : Int)) = ((3 : Nat) : Int) from rfl, shl_u8 (by have := h.flags; omega) (by omega), u8x h.hops.1]
    repeat rw [if_pos (maxB_of (by simp only [List.length_append, List.length_cons, List.length_nil, b4, ha, ho]; omega))]
    unfold rqBytes
    simp only [List.append_assoc]
    rfl
noncomputable def rpPut (m : Msg) : Bs × Bool := if rpB m = true then (if m.kind = 6 then akBytes m else rpBytes m, true) else ([], false)
theorem rpput_is {m : Msg} (g : GoodV m) : g_rrep_Put (m, ()) = some (((rpPut m).1, (rpPut m).2, ()), ()) := by
  have hl := enc_len g
  rw [g_rrep_Put_eq, rpright_is g, Option.bind_some]
  unfold rpPut
  dsimp only
  cases hr : rpB m with
  | false => rfl
  | true =>
    have h := rpB_iff.1 hr
    have hs : extB m.subs = true := h.elim (fun h => h.subs) (fun h => h.subs)
    have b4 : ∀ n, (be 4 n).length = 4 := be_length 4
    rw [ifnt, ift, eput_is g.subs g.subs1, Option.bind_some, putE_ok hs]
    dsimp only
    refine bq_step (fun hk => ?_) (fun hk => ?_)
    · rw [if_pos hk, if_pos (maxB_of (by omega))]; rfl
    · have h := h.resolve_right (fun q => hk q.kind)
      have ha := h.addr
      have ho := h.orig
      rw [if_neg hk, pp4 h.seq, Option.bind_some, pp4 h.life, Option.bind_some]
      dsimp only
      rw [show ((6 : Int)) = ((6 : Nat) : Int) from rfl, shl_u8 (by have := h.flags; omega) (by omega), u8x h.hops.1, u8x h.plen.1]
      repeat rw [if_pos (maxB_of (by simp only [List.length_append, List.length_cons, List.length_nil, b4, ha, ho]; omega))]
      unfold rpBytes
      simp only [List.append_assoc]
      rfl
theorem destB_ok {d : Dest} (h : destB d = true) : d.addr.length = 4 ∧ W32 d.seq := by
  unfold destB at h
  simp only [Bool.and_eq_true, decide_eq_true_eq, fitsB4] at h
  exact h
noncomputable def rePut (m : Msg) : Bs × Bool := if reB m = true then (reBytes m, true) else ([], false)
theorem errput_loop {n : Nat} {m : Msg} (g : GoodV m) (h : ReR m) : ∀ (d k i : Nat) (acc : Bs), i + d = m.list.length → d < k → acc.length ≤ 4 + 8 * i → L_rerr_Put_0 n k m acc i = some ((acc ++ (dests (m.list.drop i) ++ encS m.subs), true, ()), ()) := by
  have gl := g.list
  have hl := enc_len g
  have hle := h.len
  intro d
  induction d with
  | zero =>
    intro k i acc hd hk ha
    obtain ⟨k, rfl⟩ : ∃ j, k = j + 1 := ⟨k - 1, by omega⟩
    rw [L_rerr_Put_0_eq, ifn (by omega), List.drop_eq_nil_of_le (by omega), eput_is g.subs g.subs1, Option.bind_some, putE_ok h.subs]
    dsimp only
    rw [if_pos (maxB_of (by omega))]; rfl
  | succ d ih =>
    intro k i acc hd hk ha
    obtain ⟨k, rfl⟩ : ∃ j, k = j + 1 := ⟨k - 1, by omega⟩
    have hi : i < m.list.length := by omega
    obtain ⟨h1, h2⟩ := destB_ok (List.all_eq_true.1 h.list _ (List.getElem_mem hi))
    have b4 : ∀ n, (be 4 n).length = 4 := be_length 4
    have := ih k (i + 1) (acc ++ m.list[i].addr ++ be 4 m.list[i].seq) (by omega) (by omega) (by simp only [List.length_append, h1, b4]; omega)
    rw [show ((i + 1 : Nat) : Int) = (i : Int) + 1 by omega] at this
    rw [L_rerr_Put_0_eq, ifd (by omega), if_pos (by omega), Int.toNat_natCast, bind_at hi, pp4 h2, Option.bind_some]
    dsimp only
    rw [if_pos (roomB_of (by omega)), if_pos (roomB_of (by rw [List.length_append, b4]; omega)), w64 (by omega) (by omega), this, List.drop_eq_getElem_cons hi, dests]
    simp only [List.append_assoc]
theorem reput2_is {m : Msg} (g : GoodV m) : g_rerr_Put (m, ()) = some (((rePut m).1, (rePut m).2, ()), ()) := by
  show h_rerr_Put fuel _ = _
  rw [h_rerr_Put_eq, errright_is g, Option.bind_some]
  unfold rePut
  dsimp only
  cases hr : reB m with
  | false => rfl
  | true =>
    have h := reB_iff.1 hr
    have hle := h.len
    have := errput_loop (n := fuel) g h m.list.length fuel 0 [3, u8of (128 * m.flags), 0, u8of m.list.length] (by omega) (fuel_ge (by omega)) (by simp)
    rw [List.drop_zero] at this
    rw [ifnt, ift, show ((7 : Int)) = ((7 : Nat) : Int) from rfl, shl_u8 (by have := h.flags; omega) (by omega), u8x (by omega)]
    exact this
end Go.VP
set_option linter.unusedVariables false
set_option linter.unusedSimpArgs false
set_option maxRecDepth 100000
namespace Go.VP
open Go Go.VI
def zM : Msg := S_api_Msg.mk 0 0 0 [] 0 0 [] 0 0 [] 0 [] 0 0 0 0 0 0 0 [] [] [] 0 [] []
theorem ib8_or {a b : Nat} (ha : a < 256) (hb : b < 256) : ibits .or .u8 (a : Int) (b : Int) = ((a ||| b : Nat) : Int) := by
  unfold ibits
  show IntKind.wrap .u8 (((BitVec.ofInt 8 (a : Int) ||| BitVec.ofInt 8 (b : Int)).toNat : Nat) : Int) = _
  have h : a ||| b < 256 := Nat.or_lt_two_pow (n := 8) ha hb
  rw [BitVec.toNat_or, BitVec.ofInt_natCast, BitVec.ofInt_natCast, BitVec.toNat_ofNat, BitVec.toNat_ofNat, Nat.mod_eq_of_lt ha, Nat.mod_eq_of_lt hb, wu8]
  omega
theorem andor {x y : Int} {k : Nat} (hk : k ≤ 8) (hx : 0 ≤ x ∧ x < 256) (hy : 0 ≤ y ∧ y < 256) : ibits .or .u8 (ibits .and .u8 x ((2 ^ k - 1 : Nat) : Int)) y = 0 ↔ (x % 2 ^ k = 0 ∧ y = 0) := by
  obtain ⟨a, rfl⟩ : ∃ a : Nat, x = a := ⟨x.toNat, by omega⟩
  obtain ⟨b, rfl⟩ : ∃ b : Nat, y = b := ⟨y.toNat, by omega⟩
  have hp : 2 ^ k ≤ 2 ^ 8 := Nat.pow_le_pow_right (by decide) hk
  have hp0 : 0 < 2 ^ k := Nat.pow_pos (by decide)
  have h1 := Nat.mod_lt a hp0
  rw [ib8_and (by omega) (by omega), Nat.and_two_pow_sub_one_eq_mod, ib8_or (by omega) (by omega)]
  have e : ((a : Int) % 2 ^ k) = ((a % 2 ^ k : Nat) : Int) := by simp
  rw [e]
  constructor
  · intro h
    have h0 : a % 2 ^ k ||| b = 0 := by omega
    rw [Nat.or_eq_zero_iff] at h0
    omega
  · intro h
    have e1 : a % 2 ^ k = 0 := by omega
    have e2 : b = 0 := by omega
    rw [e1, e2]; rfl
theorem and224 : ∀ y : Fin 256, (y.val &&& 224 = 0) ↔ y.val < 32 := by decide +kernel
theorem andor2 {x y : Int} (hx : 0 ≤ x ∧ x < 256) (hy : 0 ≤ y ∧ y < 256) : ibits .or .u8 (ibits .and .u8 x 63) (ibits .and .u8 y 224) = 0 ↔ (x % 64 = 0 ∧ y < 32) := by
  obtain ⟨b, rfl⟩ : ∃ b : Nat, y = b := ⟨y.toNat, by omega⟩
  have h2 : ibits .and .u8 (b : Int) 224 = ((b &&& 224 : Nat) : Int) := ib8_and (b := 224) (by omega) (by omega)
  have h3 : b &&& 224 ≤ b := Nat.and_le_left
  have := andor (x := x) (y := ((b &&& 224 : Nat) : Int)) (k := 6) (by omega) hx (by omega)
  rw [h2]
  have h4 := and224 ⟨b, by omega⟩
  dsimp only at h4
  rw [show ((2 ^ 6 - 1 : Nat) : Int) = 63 from rfl, show (2 : Int) ^ 6 = 64 from rfl] at this
  rw [this]
  omega
theorem shr_u8 {x : Int} {k : Nat} (hk : k ≤ 8) : ishr .u8 x (k : Int) = x / 2 ^ k := by
  unfold ishr
  rw [show min (k : Int).toNat IntKind.u8.bits = k by simp only [IntKind.bits]; omega]
  exact Int.fdiv_eq_ediv_of_nonneg _ (Int.pow_nonneg (by decide))
def rqMsg (b : Bs) : Msg := S_api_Msg.mk 3 0 0 [] 0 0 [] 0 0 [] 0 [] (num (cut_ b 12 4)) (num (cut_ b 20 4)) 0 (bt b 1 / 8) (bt b 3) (num (cut_ b 4 4)) 0 (cut_ b 8 4) (cut_ b 16 4) [] 0 [] (getE (b.drop 24)).1
def tailE (b : Bs) (p : Nat) (m : Msg) : Msg × Int × Int := if (getE (b.drop p)).2.2 ≠ 0 then (zM, p + (getE (b.drop p)).2.1, (getE (b.drop p)).2.2) else (m, 0, 0)
def rqGet (b : Bs) : Msg × Int × Int :=
  if b.length < 24 then (zM, b.length, 2) else if ¬ (bt b 1 % 8 = 0 ∧ bt b 2 = 0) then (zM, 1, 5) else tailE b 24 (rqMsg b)
theorem rqget_is {b : Bs} (hb : b.length ≤ 1000000) : g_rreq_Get (b, ()) = some (trip (rqGet b), ()) := by
  rw [g_rreq_Get_eq]
  unfold rqGet
  refine dq_step (fun h => by rw [if_pos (by omega)]; rfl) (fun h => ?_)
  have w0 : WfC b 0 b.length := .whole (by omega)
  have w1 := w0.fwd (n := 4) (by omega) (by omega)
  have w2 := w1.fwd (n := 4) (by omega) (by omega)
  have w3 := w2.fwd (n := 4) (by omega) (by omega)
  have w4 := w3.fwd (n := 4) (by omega) (by omega)
  have w5 := w4.fwd (n := 4) (by omega) (by omega)
  rw [if_neg (show ¬ b.length < 24 by omega), get_bt (i := 1) (by omega), get_bt (i := 2) (by omega), get_bt (i := 3) (by omega)]
  simp only [Option.bind_some]
  have e1 : (((b[1]?.getD 0).toNat : Nat) : Int) = bt b 1 := rfl
  have e2 : (((b[2]?.getD 0).toNat : Nat) : Int) = bt b 2 := rfl
  have e3 : (((b[3]?.getD 0).toNat : Nat) : Int) = bt b 3 := rfl
  rw [e1, e2, e3]
  have hx := bt_rng b 1
  have hy := bt_rng b 2
  have hz := bt_rng b 3
  have ao := andor (k := 3) (by omega) hx hy
  rw [show ((2 ^ 3 - 1 : Nat) : Int) = 7 from rfl, show (2 : Int) ^ 3 = 8 from rfl] at ao
  refine ne_step (fun q => ?_) (fun q => ?_)
  · rw [if_pos (fun c => q (ao.2 c))]; rfl
  rw [if_neg (show ¬ ¬ (bt b 1 % 8 = 0 ∧ bt b 2 = 0) from fun c => c (ao.1 q)), if_pos (by omega), eget_is (by rw [List.length_drop]; omega), Option.bind_some]
  have hp := getE_place (b.drop 24)
  rw [List.length_drop] at hp
  unfold tailE
  refine ne_step (fun q2 => ?_) (fun q2 => ?_)
  · rw [if_pos q2]
    dsimp only at q2 ⊢
    rw [w64 (by omega) (by omega), Int.add_comm]; rfl
  rw [if_neg (show ¬ (getE (b.drop 24)).2.2 ≠ 0 from fun c => c q2), new_is, Option.bind_some]
  dsimp only
  rw [text_ok w0 (by omega) (by omega), Option.bind_some]
  dsimp only
  rw [num_ok w1 (by omega) (by omega) (by omega), Option.bind_some]
  dsimp only
  rw [text_ok w2 (by omega) (by omega), Option.bind_some]
  dsimp only
  rw [num_ok w3 (by omega) (by omega) (by omega), Option.bind_some]
  dsimp only
  rw [text_ok w4 (by omega) (by omega), Option.bind_some]
  dsimp only
  rw [num_ok w5 (by omega) (by omega) (by omega), Option.bind_some]
  have hs := shr_u8 (x := bt b 1) (k := 3) (by omega)
  rw [show ((3 : Nat) : Int) = 3 from rfl, show (2 : Int) ^ 3 = 8 from rfl] at hs
  rw [hs, w64 (by omega) (by omega), w64 (by omega) (by omega)]
  rfl
def rpMsg (b : Bs) : Msg := S_api_Msg.mk 4 0 0 [] 0 0 [] (bt b 2) 0 [] 0 [] (num (cut_ b 8 4)) 0 (num (cut_ b 16 4)) (bt b 1 / 64) (bt b 3) 0 0 (cut_ b 4 4) (cut_ b 12 4) [] 0 [] (getE (b.drop 20)).1
def akMsg (b : Bs) : Msg := S_api_Msg.mk 6 0 0 [] 0 0 [] 0 0 [] 0 [] 0 0 0 0 0 0 0 [] [] [] 0 [] (getE (b.drop 2)).1
def rpGet (b : Bs) : Msg × Int × Int :=
  if bt b 0 = 4 then (if b.length < 2 then (zM, b.length, 2) else if ¬ bt b 1 = 0 then (zM, 1, 5) else tailE b 2 (akMsg b))
  else if b.length < 20 then (zM, b.length, 2) else if ¬ (bt b 1 % 64 = 0 ∧ bt b 2 < 32) then (zM, 1, 5) else tailE b 20 (rpMsg b)
theorem ack_is {b : Bs} (hb : b.length ≤ 1000000) : g_rrep_ack (b, ()) = some (trip (if b.length < 2 then (zM, (b.length : Int), (2 : Int)) else if ¬ bt b 1 = 0 then (zM, 1, 5) else tailE b 2 (akMsg b)), ()) := by
  rw [g_rrep_ack_eq]
  refine dq_step (fun h => by rw [if_pos (by omega)]; rfl) (fun h => ?_)
  rw [if_neg (show ¬ b.length < 2 by omega), get_bt (i := 1) (by omega), Option.bind_some]
  refine ne_step (fun q => ?_) (fun q => ?_)
  · rw [if_pos (show ¬ bt b 1 = 0 from q)]; rfl
  rw [if_neg (show ¬ ¬ bt b 1 = 0 from fun c => c q), if_pos (by omega), eget_is (by rw [List.length_drop]; omega), Option.bind_some]
  have hp := getE_place (b.drop 2)
  rw [List.length_drop] at hp
  unfold tailE
  refine ne_step (fun q2 => ?_) (fun q2 => ?_)
  · rw [if_pos q2]
    dsimp only at q2 ⊢
    rw [w64 (by omega) (by omega), Int.add_comm]; rfl
  · rw [if_neg (show ¬ (getE (b.drop 2)).2.2 ≠ 0 from fun c => c q2)]; rfl
theorem rpget_is {b : Bs} (h0 : 1 ≤ b.length) (hb : b.length ≤ 1000000) : g_rrep_Get (b, ()) = some (trip (rpGet b), ()) := by
  rw [g_rrep_Get_eq]
  unfold rpGet
  have hne : b ≠ [] := by intro q; rw [q] at h0; simp at h0
  rw [if_pos (by simp [hne]), get_bt (i := 0) (by omega), Option.bind_some]
  refine bq_step (fun q => ?_) (fun q => ?_)
  · rw [if_pos (show bt b 0 = 4 from q), ack_is hb]; rfl
  rw [if_neg (show ¬ bt b 0 = 4 from q)]
  refine dq_step (fun h => by rw [if_pos (by omega)]; rfl) (fun h => ?_)
  have w0 : WfC b 0 b.length := .whole (by omega)
  have w1 := w0.fwd (n := 4) (by omega) (by omega)
  have w2 := w1.fwd (n := 4) (by omega) (by omega)
  have w3 := w2.fwd (n := 4) (by omega) (by omega)
  have w4 := w3.fwd (n := 4) (by omega) (by omega)
  rw [if_neg (show ¬ b.length < 20 by omega), get_bt (i := 1) (by omega), get_bt (i := 2) (by omega), get_bt (i := 3) (by omega)]
  simp only [Option.bind_some]
  have e1 : (((b[1]?.getD 0).toNat : Nat) : Int) = bt b 1 := rfl
  have e2 : (((b[2]?.getD 0).toNat : Nat) : Int) = bt b 2 := rfl
  have e3 : (((b[3]?.getD 0).toNat : Nat) : Int) = bt b 3 := rfl
  rw [e1, e2, e3]
  have hx := bt_rng b 1
  have hy := bt_rng b 2
  have hz := bt_rng b 3
  have ao := andor2 hx hy
  refine ne_step (fun q => ?_) (fun q => ?_)
  · rw [if_pos (fun c => q (ao.2 c))]; rfl
  rw [if_neg (show ¬ ¬ (bt b 1 % 64 = 0 ∧ bt b 2 < 32) from fun c => c (ao.1 q)), if_pos (by omega), eget_is (by rw [List.length_drop]; omega), Option.bind_some]
  have hp := getE_place (b.drop 20)
  rw [List.length_drop] at hp
  unfold tailE
  refine ne_step (fun q2 => ?_) (fun q2 => ?_)
  · rw [if_pos q2]
    dsimp only at q2 ⊢
    rw [w64 (by omega) (by omega), Int.add_comm]; rfl
  rw [if_neg (show ¬ (getE (b.drop 20)).2.2 ≠ 0 from fun c => c q2), new_is, Option.bind_some]
  dsimp only
  rw [text_ok w0 (by omega) (by omega), Option.bind_some]
  dsimp only
  rw [text_ok w1 (by omega) (by omega), Option.bind_some]
  dsimp only
  rw [num_ok w2 (by omega) (by omega) (by omega), Option.bind_some]
  dsimp only
  rw [text_ok w3 (by omega) (by omega), Option.bind_some]
  dsimp only
  rw [num_ok w4 (by omega) (by omega) (by omega), Option.bind_some]
  have hs := shr_u8 (x := bt b 1) (k := 6) (by omega)
  rw [show ((6 : Nat) : Int) = 6 from rfl, show (2 : Int) ^ 6 = 64 from rfl] at hs
  rw [hs, w64 (by omega) (by omega), w64 (by omega) (by omega), w64 (by omega) (by omega)]
  rfl
end Go.VP
set_option linter.unusedVariables false
set_option linter.unusedSimpArgs false
set_option maxRecDepth 100000
namespace Go.VP
open Go Go.VI
def destG (b : Bs) : Nat → Nat → List Dest
  | 0, _ => []
  | k + 1, p => ⟨cut_ b p 4, num (cut_ b ((p : Int) + 4) 4)⟩ :: destG b k (p + 8)
def reMsg (b : Bs) : Msg := S_api_Msg.mk 5 0 0 [] 0 0 [] 0 0 [] 0 [] 0 0 0 (bt b 1 / 128) 0 0 0 [] [] (destG b (bt b 3).toNat 4) 0 [] (getE (b.drop (4 + 8 * (bt b 3).toNat))).1
def reGet (b : Bs) : Msg × Int × Int :=
  if b.length < 4 then (zM, b.length, 2) else if ¬ (bt b 1 % 128 = 0 ∧ bt b 2 = 0) then (zM, 1, 5) else if bt b 3 = 0 then (zM, 3, 8)
  else if b.length < 4 + 8 * (bt b 3).toNat then (zM, b.length, 2) else tailE b (4 + 8 * (bt b 3).toNat) (reMsg b)
theorem destBo : bo_api_Dest ≤ 100 := Nat.le_of_ble_eq_true (by kernel_rfl)
theorem reget_bad {n : Nat} {b : Bs} {fl c : Int} (hb : b.length ≤ 1000000) (hc : c ≤ 255) : ∀ (d m i : Nat) (p : Int) (bad : Bool) (acc : List Dest), (i : Int) + d = c → d < m → WfC b p b.length → (bad = true ∨ (b.length : Int) < p + 8 * d) → acc.length ≤ i →
    L_rerr_Get_0 n m b fl acc b p b.length bad c i = some (trip (zM, (b.length : Int), (2 : Int)), ()) := by
  intro d
  induction d with
  | zero =>
    intro m i p bad acc hd hm w hbad ha
    obtain ⟨m, rfl⟩ : ∃ j, m = j + 1 := ⟨m - 1, by omega⟩
    have hw := w.hi
    have : bad = true := hbad.resolve_right (by omega)
    rw [L_rerr_Get_0_eq, ifn (by omega), this]; try rfl
  | succ d ih =>
    intro m i p bad acc hd hm w hbad ha
    obtain ⟨m, rfl⟩ : ∃ j, m = j + 1 := ⟨m - 1, by omega⟩
    rw [L_rerr_Get_0_eq, ifd (by omega), w64 (by omega) (by omega)]
    have go : ∀ (q : Int) (bd : Bool) (x : Dest), WfC b q b.length → (bd = true ∨ (b.length : Int) < q + 8 * d) → (if roomB ((acc.length + [x].length) * bo_api_Dest) = true then L_rerr_Get_0 n m b fl (acc ++ [x]) b q b.length bd c ((i : Int) + 1) else none) = some (trip (zM, (b.length : Int), (2 : Int)), ()) := by
      intro q bd x wq hq
      rw [if_pos (room_mul (by simp; omega) destBo)]
      have := ih m (i + 1) q bd (acc ++ [x]) (by omega) (by omega) wq hq (by simp; omega)
      rw [show ((i + 1 : Nat) : Int) = (i : Int) + 1 by omega] at this
      exact this
    by_cases h1 : bad = true ∨ (b.length : Int) < p + 4
    · rw [text_bad w (h1.imp id .inr), Option.bind_some]
      dsimp only
      rw [num_bad w (by omega) (by omega) (.inl rfl), Option.bind_some]
      exact go p true _ w (.inl rfl)
    · have hbf : bad = false := by cases bad <;> simp_all
      subst hbf
      have w1 := w.fwd (n := 4) (by omega) (by omega)
      rw [text_ok w (by omega) (by omega), Option.bind_some]
      dsimp only
      by_cases h2 : (b.length : Int) < p + 4 + 4
      · rw [num_bad w1 (by omega) (by omega) (.inr (by omega)), Option.bind_some]
        exact go (p + 4) true _ w1 (.inl rfl)
      · rw [num_ok w1 (by omega) (by omega) (by omega), Option.bind_some]
        exact go (p + 4 + 4) false _ (w1.fwd (n := 4) (by omega) (by omega)) (.inr (by have := hbad.resolve_left (by simp); omega))
theorem tail_rng (b : Bs) (p : Nat) (h : p ≤ b.length) : 0 ≤ (getE (b.drop p)).2.1 ∧ (getE (b.drop p)).2.1 ≤ b.length := by
  have := getE_place (b.drop p)
  rw [List.length_drop] at this
  omega
def reTail (b : Bs) (fl : Int) (l : List Dest) (p : Nat) : Msg × Int × Int := tailE b p (S_api_Msg.mk 5 0 0 [] 0 0 [] 0 0 [] 0 [] 0 0 0 fl 0 0 0 [] [] l 0 [] (getE (b.drop p)).1)
theorem reget_good {n : Nat} {b : Bs} {fl c : Int} (hb : b.length ≤ 1000000) (hc : c ≤ 255) : ∀ (d m i p : Nat) (acc : List Dest), (i : Int) + d = c → d < m → p + 8 * d ≤ b.length → acc.length ≤ i →
    L_rerr_Get_0 n m b fl acc b p b.length false c i = some (trip (reTail b fl (acc ++ destG b d p) (p + 8 * d)), ()) := by
  intro d
  induction d with
  | zero =>
    intro m i p acc hd hm hp ha
    obtain ⟨m, rfl⟩ : ∃ j, m = j + 1 := ⟨m - 1, by omega⟩
    have ht := tail_rng b p (by omega)
    rw [L_rerr_Get_0_eq, ifn (by omega), iff_, if_pos (by omega), Int.toNat_natCast, eget_is (by rw [List.length_drop]; omega), Option.bind_some, destG, List.append_nil]
    unfold reTail tailE
    rw [Nat.mul_zero, Nat.add_zero]
    refine ne_step (fun q2 => ?_) (fun q2 => ?_)
    · rw [if_pos q2]
      dsimp only at q2 ⊢
      rw [w64 (by omega) (by omega)]; try rfl
    · rw [if_neg (fun c => c q2)]; try rfl
  | succ d ih =>
    intro m i p acc hd hm hp ha
    obtain ⟨m, rfl⟩ : ∃ j, m = j + 1 := ⟨m - 1, by omega⟩
    have w : WfC b p b.length := ⟨by omega, by omega, by omega, by omega⟩
    have w1 := w.fwd (n := 4) (by omega) (by omega)
    have := ih m (i + 1) (p + 8) (acc ++ [⟨cut_ b p 4, num (cut_ b ((p : Int) + 4) 4)⟩]) (by omega) (by omega) (by omega) (by simp; omega)
    rw [show ((i + 1 : Nat) : Int) = (i : Int) + 1 by omega, show ((p + 8 : Nat) : Int) = (p : Int) + 4 + 4 by omega, show p + 8 + 8 * d = p + 8 * (d + 1) by omega] at this
    rw [L_rerr_Get_0_eq, ifd (by omega), w64 (by omega) (by omega), text_ok w (by omega) (by omega), Option.bind_some]
    dsimp only
    rw [num_ok w1 (by omega) (by omega) (by omega), Option.bind_some]
    dsimp only
    rw [if_pos (room_mul (by simp; omega) destBo), this, destG]
    simp only [List.append_assoc, List.singleton_append]
theorem reget2_is {b : Bs} (hb : b.length ≤ 1000000) : g_rerr_Get (b, ()) = some (trip (reGet b), ()) := by
  show h_rerr_Get fuel _ = _
  rw [h_rerr_Get_eq]
  unfold reGet
  refine dq_step (fun h => by rw [if_pos (by omega)]; try rfl) (fun h => ?_)
  rw [if_neg (show ¬ b.length < 4 by omega), get_bt (i := 1) (by omega), Option.bind_some, get_bt (i := 2) (by omega), Option.bind_some, get_bt (i := 3) (by omega)]
  have e1 : (((b[1]?.getD 0).toNat : Nat) : Int) = bt b 1 := rfl
  have e2 : (((b[2]?.getD 0).toNat : Nat) : Int) = bt b 2 := rfl
  have e3 : (((b[3]?.getD 0).toNat : Nat) : Int) = bt b 3 := rfl
  rw [e1, e2]
  have hx := bt_rng b 1
  have hy := bt_rng b 2
  have hz := bt_rng b 3
  have ao := andor (k := 7) (by omega) hx hy
  rw [show ((2 ^ 7 - 1 : Nat) : Int) = 127 from rfl, show (2 : Int) ^ 7 = 128 from rfl] at ao
  refine ne_step (fun q => ?_) (fun q => ?_)
  · rw [if_pos (fun c => q (ao.2 c))]; try rfl
  rw [if_neg (show ¬ ¬ (bt b 1 % 128 = 0 ∧ bt b 2 = 0) from fun c => c (ao.1 q)), Option.bind_some]
  refine bq_step (fun q => by rw [if_pos (show bt b 3 = 0 from q)]; try rfl) (fun q => ?_)
  have w0 : WfC b 0 b.length := .whole (by omega)
  have w1 := w0.fwd (n := 4) (by omega) (by omega)
  have hs := shr_u8 (x := bt b 1) (k := 7) (by omega)
  rw [show ((7 : Nat) : Int) = 7 from rfl, show (2 : Int) ^ 7 = 128 from rfl] at hs
  rw [if_neg (show ¬ bt b 3 = 0 from q), Option.bind_some, new_is, Option.bind_some]
  dsimp only
  rw [text_ok w0 (by omega) (by omega), Option.bind_some, Option.bind_some, e3, e1, hs, w64 (x := bt b 1 / 128) (by omega) (by omega), w64 (x := bt b 3) (by omega) (by omega)]
  dsimp only
  by_cases hl : b.length < 4 + 8 * (bt b 3).toNat
  · rw [if_pos hl]
    have key := reget_bad (n := fuel) (fl := bt b 1 / 128) (c := bt b 3) hb (by omega) (bt b 3).toNat fuel 0 (0 + 4) false [] (by omega) (fuel_ge (by omega)) w1 (.inr (by omega)) (by simp)
    rw [show ((0 : Nat) : Int) = 0 from rfl] at key
    rw [key]
  · rw [if_neg hl]
    have key := reget_good (n := fuel) (fl := bt b 1 / 128) (c := bt b 3) hb (by omega) (bt b 3).toNat fuel 0 4 [] (by omega) (fuel_ge (by omega)) (by omega) (by simp)
    rw [show ((4 : Nat) : Int) = 0 + 4 from rfl, show ((0 : Nat) : Int) = 0 from rfl, List.nil_append] at key
    rw [key]
    unfold reTail reMsg
    rfl
end Go.VP
set_option linter.unusedVariables false
set_option linter.unusedSimpArgs false
set_option maxRecDepth 100000
namespace Go.VP
open Go Go.VI
noncomputable def avB (m : Msg) : Bool := rqB m || (rpB m || reB m)
noncomputable def avPut (m : Msg) : Bs := if rqB m = true then rqBytes m else if rpB m = true then (if m.kind = 6 then akBytes m else rpBytes m) else if reB m = true then reBytes m else []
noncomputable def encAv (l : List Msg) : Bs × Int × Int := match badP avB l 0 with
  | some i => ([], (i : Int), 1)
  | none => match l with
    | [] => ([], 0, 8)
    | [m] => if 65535 < (avPut m).length then ([], 0, 10) else (avPut m, 0, 0)
    | _ => ([], 1, 8)
def avGet (b : Bs) : Msg × Int × Int := if bt b 0 = 1 then rqGet b else if bt b 0 = 3 then reGet b else rpGet b
def parseAv (b : Bs) : List Msg × Int × Int :=
  if 65535 < b.length then ([], 65535, 10) else if b.length = 0 then ([], 0, 2) else if bt b 0 < 1 ∨ 4 < bt b 0 then ([], 0, 4)
  else if (avGet b).2.2 ≠ 0 then ([], (avGet b).2.1, (avGet b).2.2) else ([(avGet b).1], 0, 0)
theorem avright_is {m : Msg} (g : GoodV m) : g_aodv_Right (m, ()) = some ((avB m, ()), ()) := by
  rw [g_aodv_Right_eq, rqright_is g, Option.bind_some]
  unfold avB
  dsimp only
  cases rqB m with
  | true => rfl
  | false =>
    rw [iff_, rpright_is g, Option.bind_some]
    dsimp only
    cases rpB m with
    | true => rfl
    | false => rw [iff_, errright_is g]; try rfl
theorem avget_is {b : Bs} (h0 : 1 ≤ b.length) (hb : b.length ≤ 1000000) : g_aodv_get (b, ()) = some (trip (avGet b), ()) := by
  rw [g_aodv_get_eq, get_bt (i := 0) (by omega), Option.bind_some]
  unfold avGet
  refine bq_step (fun q => ?_) (fun q => ?_)
  · rw [if_pos (show bt b 0 = 1 from q), rqget_is hb]; try rfl
  rw [if_neg (show ¬ bt b 0 = 1 from q)]
  refine bq_step (fun q => ?_) (fun q => ?_)
  · rw [if_pos (show bt b 0 = 3 from q), reget2_is hb]; try rfl
  rw [if_neg (show ¬ bt b 0 = 3 from q), rpget_is h0 hb]; try rfl
theorem avparse_is {b : Bs} (hb : b.length ≤ 1000000000) : g_aodv_Parse (b, ()) = some (trip (parseAv b), ()) := by
  rw [g_aodv_Parse_eq]
  unfold parseAv
  refine dq_step (fun h => by rw [if_pos (by omega)]; try rfl) (fun h => ?_)
  rw [if_neg (show ¬ 65535 < b.length by omega)]
  refine bq_step (fun h => by rw [if_pos (by omega)]; try rfl) (fun h1 => ?_)
  rw [if_neg (show ¬ b.length = 0 by omega), get_bt (i := 0) (by omega), Option.bind_some, Option.bind_some]
  refine dq_step (fun h => by rw [if_pos (show bt b 0 < 1 ∨ 4 < bt b 0 from .inl h)]; try rfl) (fun h2 => ?_)
  refine dq_step (fun h => by rw [if_pos (show bt b 0 < 1 ∨ 4 < bt b 0 from .inr h)]; try rfl) (fun h3 => ?_)
  rw [if_neg (show ¬ (bt b 0 < 1 ∨ 4 < bt b 0) from fun c => c.elim h2 h3), avget_is (by omega) (by omega), Option.bind_some]
  refine ne_step (fun q => ?_) (fun q => ?_)
  · rw [if_pos q]; try rfl
  · rw [if_neg (fun c => c q)]; try rfl
theorem avenc_is {l : List Msg} (g : ∀ m ∈ l, GoodV m) (hl : l.length ≤ 1000000) : g_aodv_Encode (l, ()) = some (trip (encAv l), ()) := by
  show h_aodv_Encode fuel (l, ()) = _
  rw [h_aodv_Encode_eq]
  have main : ∀ (d m i : Nat), i + d = l.length → d < m → badP avB l 0 = badP avB (l.drop i) i → L_aodv_Encode_0 fuel m l i = some (trip (encAv l), ()) := by
    intro d
    induction d with
    | zero =>
      intro m i hd hm hb
      obtain ⟨m, rfl⟩ : ∃ k, m = k + 1 := ⟨m - 1, by omega⟩
      rw [List.drop_eq_nil_of_le (by omega)] at hb
      have hn : badP avB l 0 = none := hb
      have hok := badP_none hn
      rw [L_aodv_Encode_0_eq, ifn (by omega)]
      match l, g, hn, hok with
      | [], _, _, _ => rfl
      | x :: y :: r, _, hn, _ =>
        have he : encAv (x :: y :: r) = ([], 1, 8) := by unfold encAv; rw [hn]
        rw [he, if_neg (by simp; omega), ifd (by simp; omega)]
      | [x], g, hn, hok =>
        have g := g x (by simp)
        have hx := hok x (by simp)
        have he : encAv [x] = if 65535 < (avPut x).length then ([], 0, 10) else (avPut x, 0, 0) := by unfold encAv; rw [hn]
        have fin : ∀ s : Bs, s = avPut x → (if (decide (65535 < (s.length : Int))) = true then some ((([] : Bs), 0, 10, ()), ()) else some ((s, 0, 0, ()), ())) = some (trip (encAv [x]), ()) := by
          intro s hs
          rw [he, ← hs]
          refine dq_step (fun h => ?_) (fun h => ?_)
          · rw [if_pos (by omega)]
          · rw [if_neg (by omega)]
        rw [if_neg (by simp), ifn (by simp), show [x][0]? = some x from rfl]
        simp only [Option.bind_some]
        rw [rqput_is g, Option.bind_some]
        dsimp only
        unfold rqPut
        cases h1 : rqB x with
        | true =>
          simp only [if_true]
          rw [ifnt]
          exact fin _ (by unfold avPut; rw [if_pos h1])
        | false =>
          rw [iff_, ifnf, rpput_is g, Option.bind_some]
          dsimp only
          unfold rpPut
          cases h2 : rpB x with
          | true =>
            simp only [if_true]
            rw [ifnt]
            exact fin _ (by unfold avPut; rw [if_neg (show ¬ rqB x = true by rw [h1]; simp), if_pos h2])
          | false =>
            rw [iff_, ifnf, reput2_is g, Option.bind_some]
            have h3 : reB x = true := by unfold avB at hx; rw [h1, h2] at hx; simpa using hx
            refine fin _ ?_
            unfold rePut avPut
            rw [if_pos h3, if_neg (show ¬ rqB x = true by rw [h1]; simp), if_neg (show ¬ rpB x = true by rw [h2]; simp), if_pos h3]
    | succ d ih =>
      intro m i hd hm hb
      obtain ⟨m, rfl⟩ : ∃ k, m = k + 1 := ⟨m - 1, by omega⟩
      have hi : i < l.length := by omega
      rw [List.drop_eq_getElem_cons hi, badP] at hb
      rw [L_aodv_Encode_0_eq, ifd (by omega), if_pos (by omega), Int.toNat_natCast, bind_at hi, avright_is (g _ (List.getElem_mem hi)), Option.bind_some]
      dsimp only
      cases ho : avB l[i] with
      | true =>
        rw [if_pos ho] at hb
        have := ih m (i + 1) (by omega) (by omega) hb
        rw [ifnt, w64 (by omega) (by omega)]
        exact this
      | false =>
        rw [if_neg (by rw [ho]; simp)] at hb
        rw [ifnf]
        unfold encAv; rw [hb]
  exact main l.length fuel 0 (by omega) (fuel_ge (by omega)) rfl
end Go.VP
set_option linter.unusedVariables false
set_option linter.unusedSimpArgs false
set_option maxRecDepth 100000
namespace Go.VP
open Go Go.VI
theorem drop_step {b x r : Bs} {p n : Nat} (h : b.drop p = x ++ r) (hx : x.length = n) : b.drop (p + n) = r ∧ cut_ b p (n : Int) = x := by
  rw [cut_dropN, h, ← List.drop_drop, h]
  exact ⟨List.drop_left' hx, List.take_left' hx⟩
theorem num_be4v {n : Int} (h : W32 n) : num (be 4 n) = n := num_be 4 n h.1 (by have := h.2; omega)
theorem bt_u8 {c : Int} (h : 0 ≤ c ∧ c < 256) : ((u8of c).toNat : Int) = c := by rw [u8of_int]; omega
theorem bare_eq {m x : Msg} (h : bareB m = true) (hx : bareOf m = some x) : m = x := by
  unfold bareB at h
  rw [hx] at h
  exact (eqB_true.1 h).symm
theorem RqR.is {m : Msg} (h : RqR m) : m = S_api_Msg.mk 3 0 0 [] 0 0 [] 0 0 [] 0 [] m.seq m.seq2 0 m.flags m.hops m.nonce 0 m.addr m.orig [] 0 [] m.subs := by
  have hk := h.kind
  have := bare_eq h.bare (by unfold bareOf; rw [if_neg (by omega), if_neg (by omega), if_pos hk])
  rw [hk] at this
  exact this
theorem rq_back {m : Msg} (h : RqR m) : rqGet (rqBytes m) = (m, 0, 0) ∧ bt (rqBytes m) 0 = 1 := by
  have b4 : ∀ n, (be 4 n).length = 4 := be_length 4
  have hf := h.flags
  have hh := h.hops
  have hae := allE_iff.1 h.subs
  obtain ⟨d1, c1⟩ := drop_step (b := rqBytes m) (p := 4) (n := 4) (x := be 4 m.nonce) rfl (b4 _)
  obtain ⟨d2, c2⟩ := drop_step d1 h.addr
  obtain ⟨d3, c3⟩ := drop_step d2 (b4 _)
  obtain ⟨d4, c4⟩ := drop_step d3 h.orig
  obtain ⟨d5, c5⟩ := drop_step d4 (b4 _)
  have hlen := congrArg List.length d5
  rw [List.length_drop] at hlen
  have hL : 24 ≤ (rqBytes m).length := by unfold rqBytes; simp only [List.length_append, List.length_cons, List.length_nil, b4, h.addr, h.orig]; omega
  have e1 : bt (rqBytes m) 1 = 8 * m.flags := bt_u8 (by omega)
  have e2 : bt (rqBytes m) 2 = 0 := rfl
  have e3 : bt (rqBytes m) 3 = m.hops := bt_u8 hh
  refine ⟨?_, rfl⟩
  unfold rqGet
  rw [if_neg (by omega), e1, e2, if_neg (by omega)]
  unfold tailE
  rw [show (4 + 4 + 4 + 4 + 4 + 4 : Nat) = 24 from rfl] at d5
  rw [d5, getE_back hae, if_neg (show ¬ (0 : Int) ≠ 0 by decide)]
  unfold rqMsg
  rw [d5, getE_back hae, e1, e3]
  have c1 : cut_ (rqBytes m) 4 4 = _ := c1
  have c2 : cut_ (rqBytes m) 8 4 = _ := c2
  have c3 : cut_ (rqBytes m) 12 4 = _ := c3
  have c4 : cut_ (rqBytes m) 16 4 = _ := c4
  have c5 : cut_ (rqBytes m) 20 4 = _ := c5
  rw [c1, c2, c3, c4, c5, num_be4v h.nonce, num_be4v h.seq, num_be4v h.seq2, show 8 * m.flags / 8 = m.flags by omega]
  rw [← h.is]
theorem RpR.is {m : Msg} (h : RpR m) : m = S_api_Msg.mk 4 0 0 [] 0 0 [] m.plen 0 [] 0 [] m.seq 0 m.interval m.flags m.hops 0 0 m.addr m.orig [] 0 [] m.subs := by
  have hk := h.kind
  have := bare_eq h.bare (by unfold bareOf; rw [if_neg (by omega), if_neg (by omega), if_neg (by omega), if_pos hk])
  rw [hk] at this
  exact this
theorem AkR.is {m : Msg} (h : AkR m) : m = S_api_Msg.mk 6 0 0 [] 0 0 [] 0 0 [] 0 [] 0 0 0 0 0 0 0 [] [] [] 0 [] m.subs := by
  have hk := h.kind
  have := bare_eq h.bare (by unfold bareOf; rw [if_neg (by omega), if_neg (by omega), if_neg (by omega), if_neg (by omega), if_neg (by omega), if_pos hk])
  rw [hk] at this
  exact this
theorem rp_back {m : Msg} (h : RpR m) : rpGet (rpBytes m) = (m, 0, 0) ∧ bt (rpBytes m) 0 = 2 := by
  have b4 : ∀ n, (be 4 n).length = 4 := be_length 4
  have hf := h.flags
  have hh := h.hops
  have hp := h.plen
  have hae := allE_iff.1 h.subs
  obtain ⟨d1, c1⟩ := drop_step (b := rpBytes m) (p := 4) (n := 4) (x := m.addr) rfl h.addr
  obtain ⟨d2, c2⟩ := drop_step d1 (b4 _)
  obtain ⟨d3, c3⟩ := drop_step d2 h.orig
  obtain ⟨d4, c4⟩ := drop_step d3 (b4 _)
  have hL : 20 ≤ (rpBytes m).length := by unfold rpBytes; simp only [List.length_append, List.length_cons, List.length_nil, b4, h.addr, h.orig]; omega
  have e0 : bt (rpBytes m) 0 = 2 := rfl
  have e1 : bt (rpBytes m) 1 = 64 * m.flags := bt_u8 (by omega)
  have e2 : bt (rpBytes m) 2 = m.plen := bt_u8 (by omega)
  have e3 : bt (rpBytes m) 3 = m.hops := bt_u8 hh
  refine ⟨?_, rfl⟩
  unfold rpGet
  rw [e0, if_neg (by decide), if_neg (by omega), e1, e2, if_neg (by omega)]
  unfold tailE
  rw [show (4 + 4 + 4 + 4 + 4 : Nat) = 20 from rfl] at d4
  rw [d4, getE_back hae, if_neg (show ¬ (0 : Int) ≠ 0 by decide)]
  unfold rpMsg
  rw [d4, getE_back hae, e1, e2, e3]
  have c1 : cut_ (rpBytes m) 4 4 = _ := c1
  have c2 : cut_ (rpBytes m) 8 4 = _ := c2
  have c3 : cut_ (rpBytes m) 12 4 = _ := c3
  have c4 : cut_ (rpBytes m) 16 4 = _ := c4
  rw [c1, c2, c3, c4, num_be4v h.seq, num_be4v h.life, show 64 * m.flags / 64 = m.flags by omega]
  rw [← h.is]
theorem ak_back {m : Msg} (h : AkR m) : rpGet (akBytes m) = (m, 0, 0) ∧ bt (akBytes m) 0 = 4 := by
  have hae := allE_iff.1 h.subs
  have d : (akBytes m).drop 2 = encS m.subs := rfl
  have e0 : bt (akBytes m) 0 = 4 := rfl
  have e1 : bt (akBytes m) 1 = 0 := rfl
  refine ⟨?_, rfl⟩
  unfold rpGet
  rw [e0, if_pos rfl, if_neg (by unfold akBytes; simp), e1, if_neg (by decide)]
  unfold tailE
  rw [d, getE_back hae, if_neg (show ¬ (0 : Int) ≠ 0 by decide)]
  unfold akMsg
  rw [d, getE_back hae]
  rw [← h.is]
theorem ReR.is {m : Msg} (h : ReR m) : m = S_api_Msg.mk 5 0 0 [] 0 0 [] 0 0 [] 0 [] 0 0 0 m.flags 0 0 0 [] [] m.list 0 [] m.subs := by
  have hk := h.kind
  have := bare_eq h.bare (by unfold bareOf; rw [if_neg (by omega), if_neg (by omega), if_neg (by omega), if_neg (by omega), if_pos hk])
  rw [hk] at this
  exact this
theorem destG_back {b : Bs} : ∀ (l : List Dest) (p : Nat) (r : Bs), (∀ d ∈ l, destB d = true) → b.drop p = dests l ++ r → destG b l.length p = l ∧ b.drop (p + 8 * l.length) = r
  | [], p, r, _, h => ⟨rfl, h⟩
  | d :: l, p, r, hl, h => by
    obtain ⟨h1, h2⟩ := destB_ok (hl d (List.mem_cons_self ..))
    unfold dests at h
    rw [List.append_assoc, List.append_assoc] at h
    obtain ⟨d1, c1⟩ := drop_step h h1
    obtain ⟨d2, c2⟩ := drop_step d1 (be_length 4 _)
    obtain ⟨k1, k2⟩ := destG_back l (p + 4 + 4) r (fun x hx => hl x (List.mem_cons_of_mem _ hx)) d2
    have c1 : cut_ b p 4 = d.addr := c1
    have c2 : cut_ b ((p : Int) + 4) 4 = be 4 d.seq := c2
    refine ⟨?_, by rw [← k2]; congr 1; simp; omega⟩
    rw [List.length_cons, destG, c1, c2, num_be4v h2, k1]
theorem re_back {m : Msg} (h : ReR m) : reGet (reBytes m) = (m, 0, 0) ∧ bt (reBytes m) 0 = 3 := by
  have hf := h.flags
  have hl := h.len
  have hae := allE_iff.1 h.subs
  have e1 : bt (reBytes m) 1 = 128 * m.flags := bt_u8 (by omega)
  have e2 : bt (reBytes m) 2 = 0 := rfl
  have e3 : bt (reBytes m) 3 = m.list.length := bt_u8 (by omega)
  obtain ⟨k1, k2⟩ := destG_back (b := reBytes m) m.list 4 (encS m.subs) (List.all_eq_true.1 h.list) rfl
  have hdl : ∀ l : List Dest, (∀ d ∈ l, destB d = true) → (dests l).length = 8 * l.length := fun l => by
    induction l with
    | nil => intro _; rfl
    | cons d l ih =>
      intro hh
      have := (destB_ok (hh d (List.mem_cons_self ..))).1
      unfold dests
      rw [List.length_append, List.length_append, ih (fun x hx => hh x (List.mem_cons_of_mem _ hx)), this, be_length, List.length_cons]
      omega
  have hL : (reBytes m).length = 4 + 8 * m.list.length + (encS m.subs).length := by
    unfold reBytes
    rw [List.length_append, List.length_append, hdl _ (List.all_eq_true.1 h.list)]
    simp only [List.length_cons, List.length_nil]; omega
  refine ⟨?_, rfl⟩
  unfold reGet
  rw [if_neg (by omega), e1, e2, if_neg (by omega), e3, if_neg (by omega), Int.toNat_natCast, if_neg (by omega)]
  unfold tailE
  rw [k2, getE_back hae, if_neg (show ¬ (0 : Int) ≠ 0 by decide)]
  unfold reMsg
  rw [e1, e3, Int.toNat_natCast, k1, k2, getE_back hae, show 128 * m.flags / 128 = m.flags by omega]
  rw [← h.is]
end Go.VP
set_option linter.unusedVariables false
set_option linter.unusedSimpArgs false
set_option maxRecDepth 100000
namespace Go.VP
open Go Go.VI
theorem avB_cases {m : Msg} (h : avB m = true) : RqR m ∨ RpR m ∨ AkR m ∨ ReR m := by
  unfold avB at h
  simp only [Bool.or_eq_true, rqB_iff, rpB_iff, reB_iff] at h
  rcases h with h | (h | h) | h
  · exact .inl h
  · exact .inr (.inl h)
  · exact .inr (.inr (.inl h))
  · exact .inr (.inr (.inr h))
theorem put_rq {m : Msg} (h : RqR m) : avPut m = rqBytes m := by unfold avPut; rw [if_pos (rqB_iff.2 h)]
theorem put_rp {m : Msg} (h : RpR m) : avPut m = rpBytes m := by
  have := h.kind
  unfold avPut; rw [if_neg (fun q => by have := (rqB_iff.1 q).kind; omega), if_pos (rpB_iff.2 (.inl h)), if_neg (by omega)]
theorem put_ak {m : Msg} (h : AkR m) : avPut m = akBytes m := by
  have := h.kind
  unfold avPut; rw [if_neg (fun q => by have := (rqB_iff.1 q).kind; omega), if_pos (rpB_iff.2 (.inr h)), if_pos (by omega)]
theorem put_re {m : Msg} (h : ReR m) : avPut m = reBytes m := by
  have := h.kind
  unfold avPut; rw [if_neg (fun q => by have := (rqB_iff.1 q).kind; omega), if_neg (fun q => by rcases rpB_iff.1 q with q | q <;> (have := q.kind; omega)), if_pos (reB_iff.2 h)]
theorem av_one {m : Msg} (h : avB m = true) : avGet (avPut m) = (m, 0, 0) ∧ 1 ≤ bt (avPut m) 0 ∧ bt (avPut m) 0 ≤ 4 ∧ (avPut m).length ≠ 0 := by
  have ne : ∀ b : Bs, 1 ≤ bt b 0 → b.length ≠ 0 := fun b hb q => by
    have : b = [] := List.eq_nil_of_length_eq_zero q
    subst this
    have : bt [] 0 = 0 := rfl
    omega
  unfold avGet
  rcases avB_cases h with h | h | h | h
  · obtain ⟨k1, k2⟩ := rq_back h
    rw [put_rq h, k2, if_pos rfl]
    exact ⟨k1, by omega, by omega, ne _ (by omega)⟩
  · obtain ⟨k1, k2⟩ := rp_back h
    rw [put_rp h, k2, if_neg (by decide), if_neg (by decide)]
    exact ⟨k1, by omega, by omega, ne _ (by omega)⟩
  · obtain ⟨k1, k2⟩ := ak_back h
    rw [put_ak h, k2, if_neg (by decide), if_neg (by decide)]
    exact ⟨k1, by omega, by omega, ne _ (by omega)⟩
  · obtain ⟨k1, k2⟩ := re_back h
    rw [put_re h, k2, if_neg (by decide), if_pos rfl]
    exact ⟨k1, by omega, by omega, ne _ (by omega)⟩
theorem encAv_one {m : Msg} (h : avB m = true) : encAv [m] = if 65535 < (avPut m).length then ([], 0, 10) else (avPut m, 0, 0) := by
  unfold encAv
  rw [badP_ok (fun x hx => by rw [List.mem_singleton.1 hx]; exact h)]
theorem av_right {l : List Msg} (h : (encAv l).2.2 = 0) : ∃ m, l = [m] ∧ avB m = true ∧ encAv l = (avPut m, 0, 0) ∧ (avPut m).length ≤ 65535 := by
  have h0 := h
  unfold encAv at h0
  split at h0
  · cases h0
  · rename_i hb
    have hok := badP_none hb
    split at h0
    · cases h0
    · rename_i m
      have hm := hok m (by simp)
      rw [encAv_one hm] at h ⊢
      by_cases q : 65535 < (avPut m).length
      · rw [if_pos q] at h; cases h
      · rw [if_neg q]; exact ⟨m, rfl, hm, rfl, by omega⟩
    · cases h0
theorem av_back {l : List Msg} (h : (encAv l).2.2 = 0) : parseAv (encAv l).1 = (l, 0, 0) ∧ (encAv l).1.length ≤ 65535 := by
  obtain ⟨m, rfl, hm, he, hl⟩ := av_right h
  rw [he]
  obtain ⟨k1, k2, k3, k4⟩ := av_one hm
  refine ⟨?_, hl⟩
  dsimp only
  unfold parseAv
  rw [if_neg (by omega), if_neg k4, if_neg (by omega), k1, if_neg (show ¬ (0 : Int) ≠ 0 by decide)]
theorem AllE.fewS {l : List Sub} (h : AllE l) (hl : l.length ≤ 1000000) : FewS l := ⟨by omega, fun y hy => by have := (h y hy).2.2; omega⟩
end Go.VP
set_option linter.unusedVariables false
set_option linter.unusedSimpArgs false
set_option maxRecDepth 100000
namespace Go.VP
open Go Go.VI
structure GoodQ (m : Msg) : Prop where
  rip : RM m
  ng : GoodG m
  av : GoodV m
  lean : GoodL m
theorem goodQ {m : Msg} (g : Good_api_Msg m) (h : Few m) : GoodQ m := by
  have hl := h.lite
  have g0 := g
  obtain ⟨g1, g2, g3, g4, g5, g6, g7, g8, g9, g10, g11, g12, g13, g14, g15, g16, g17, g18, g19, g20, g21, g22, g23, _⟩ := g
  have h1 := hl.list
  have h2 := hl.subs
  exact ⟨goodRM g0 h, ⟨g9, g8, g2, by omega, by omega⟩, ⟨g18, g13, g14, g17, g15, by omega, fun d hd => (g22.2 d hd).2.1, hl.fewS, by omega⟩, goodL g0 hl⟩
open Classical in
noncomputable def rightP (p : Int) (m : Msg) : Bool := if p = 1 then rightR m else if p = 2 then ngB m else if p = 3 then avB m else if p = 4 then leanB m else false
end Go.VP
set_option linter.unusedVariables false
set_option linter.unusedSimpArgs false
set_option maxRecDepth 100000
namespace Go.VP
open Go Go.VI
noncomputable def parseP (p : Int) (b : Bs) : List Msg × Int × Int := if p = 1 then parseR b else if p = 2 then parseN b else if p = 3 then parseAv b else if p = 4 then parseI b else ([], 0, 1)
noncomputable def encP (p : Int) (l : List Msg) : Bs × Int × Int := if p = 1 then encR l else if p = 2 then encNg l else if p = 3 then encAv l else if p = 4 then encO l else ([], 0, 1)
def GoodP (p : Int) (m : Msg) : Prop := (p = 1 → RM m) ∧ (p = 2 → GoodG m) ∧ (p = 3 → GoodV m) ∧ (p = 4 → GoodL m)
theorem GoodQ.p {m : Msg} (g : GoodQ m) (p : Int) : GoodP p m := ⟨fun _ => g.rip, fun _ => g.ng, fun _ => g.av, fun _ => g.lean⟩
theorem sright_p {p : Int} {m : Msg} (g : GoodP p m) : g_suite_Right (p, m, ()) = some ((rightP p m, ()), ()) := by
  rw [g_suite_Right_eq]
  unfold rightP
  refine bq_step (fun h => by rw [if_pos h, ripRight_is (g.1 h)]; rfl) (fun h1 => ?_)
  rw [if_neg h1]
  refine bq_step (fun h => by rw [if_pos h, ngright_is (g.2.1 h)]; rfl) (fun h2 => ?_)
  rw [if_neg h2]
  refine bq_step (fun h => by rw [if_pos h, avright_is (g.2.2.1 h)]; rfl) (fun h3 => ?_)
  rw [if_neg h3]
  refine bq_step (fun h => by rw [if_pos h, lright_is (g.2.2.2 h)]; rfl) (fun h4 => ?_)
  rw [if_neg h4]
theorem sparse_is {p : Int} {b : Bs} (hb : b.length ≤ 100000) : g_suite_Parse (p, b, ()) = some (trip (parseP p b), ()) := by
  rw [g_suite_Parse_eq]
  unfold parseP
  refine bq_step (fun h => by rw [if_pos h, parse_is hb]; rfl) (fun h1 => ?_)
  rw [if_neg h1]
  refine bq_step (fun h => by rw [if_pos h, ngparse_is (by omega)]; rfl) (fun h2 => ?_)
  rw [if_neg h2]
  refine bq_step (fun h => by rw [if_pos h, avparse_is (by omega)]; rfl) (fun h3 => ?_)
  rw [if_neg h3]
  refine bq_step (fun h => by rw [if_pos h, iparse_is]; rfl) (fun h4 => ?_)
  rw [if_neg h4]
theorem senc_is {p : Int} {l : List Msg} (g : ∀ m ∈ l, GoodP p m) (hl : l.length ≤ 100000) (h1 : p = 1 → l.length ≤ 1000) : g_suite_Encode (p, l, ()) = some (trip (encP p l), ()) := by
  rw [g_suite_Encode_eq]
  unfold encP
  refine bq_step (fun h => by rw [if_pos h, enc_is (fun m hm => (g m hm).1 h) (h1 h)]; rfl) (fun h1 => ?_)
  rw [if_neg h1]
  refine bq_step (fun h => by rw [if_pos h, ngenc_is (fun m hm => (g m hm).2.1 h) (by omega)]; rfl) (fun h2 => ?_)
  rw [if_neg h2]
  refine bq_step (fun h => by rw [if_pos h, avenc_is (fun m hm => (g m hm).2.2.1 h) (by omega)]; rfl) (fun h3 => ?_)
  rw [if_neg h3]
  refine bq_step (fun h => by rw [if_pos h, oenc_is hl (fun m hm => (g m hm).2.2.2 h)]; rfl) (fun h4 => ?_)
  rw [if_neg h4]
theorem enc_back2 {l : List Msg} (h : (encR l).2.2 = 0) : parseR (encR l).1 = (l, 0, 0) ∧ (encR l).1.length ≤ 504 := by
  unfold encR at h ⊢
  cases hb : badR l 0 with
  | some i => rw [hb] at h; simp at h
  | none =>
    rw [hb] at h
    have hok := badR_none hb
    cases l with
    | nil => simp at h
    | cons f r =>
      dsimp only at h ⊢
      have hmo : ((0 : Nat) : Int) ≤ mostR f := by unfold mostR; split <;> omega
      obtain ⟨h1, h2⟩ := encGo_ok (f :: r) 0 _ hmo h
      rw [enc_good (f :: r) 0 _ (by simpa using h1) h2]
      have ht : ∀ m ∈ r, togP f m := fun m hm => by
        obtain ⟨j, hj, e⟩ := List.mem_iff_getElem.1 hm
        have := h2 (j + 1) (by simpa using hj) (by omega)
        rw [List.getElem_cons_succ, e] at this
        exact this
      have hmo2 : (((f :: r).length : Nat) : Int) ≤ mostR f := by simpa using h1
      refine ⟨parse_back hok ht (fun c => ?_) hmo2, ?_⟩
      · cases r with
        | nil => rfl
        | cons x _ => exact absurd c (ht x (by simp)).2.2.2.2
      · have hfl := flat_len hok
        have hhl := headE_length (hok f (by simp))
        dsimp only
        rw [List.length_append, hfl]
        unfold mostR at hmo2
        by_cases ha : f.auth = []
        · rw [if_pos ha] at hmo2 hhl; omega
        · rw [if_neg ha] at hmo2 hhl; omega
theorem p_back {p : Int} {l : List Msg} (h : (encP p l).2.2 = 0) : parseP p (encP p l).1 = (l, 0, 0) ∧ (encP p l).1.length ≤ 65535 := by
  unfold encP at h ⊢
  unfold parseP
  by_cases h1 : p = 1
  · simp only [if_pos h1] at h ⊢
    have := enc_back2 h
    exact ⟨this.1, by omega⟩
  simp only [if_neg h1] at h ⊢
  by_cases h2 : p = 2
  · simp only [if_pos h2] at h ⊢; exact ng_back h
  simp only [if_neg h2] at h ⊢
  by_cases h3 : p = 3
  · simp only [if_pos h3] at h ⊢; exact av_back h
  simp only [if_neg h3] at h ⊢
  by_cases h4 : p = 4
  · simp only [if_pos h4] at h ⊢
    obtain ⟨hB, s, d, k1, k2, k3, k4, k5⟩ := encO_ok h
    have hp := parse_out k4 k2
    rw [k3] at k5 ⊢
    exact ⟨hp, by dsimp only at k5 ⊢; omega⟩
  · simp only [if_neg h4] at h; cases h
end Go.VP
