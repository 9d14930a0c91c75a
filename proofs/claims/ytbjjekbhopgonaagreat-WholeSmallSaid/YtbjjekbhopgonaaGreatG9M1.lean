import Derived.Test.YtbjjekbhopgonaaGreatG9FQ1
import Derived.Test.YtbjjekbhopgonaaGreatG9FQ2
import Derived.Test.YtbjjekbhopgonaaGreatG9FQ7
import Derived.Test.YtbjjekbhopgonaaGreatG9M0
import Derived.Test.YtbjjekbhopgonaaGreatG9FQ8
import Derived.Test.YtbjjekbhopgonaaGreatG9FH
import Derived.Test.YtbjjekbhopgonaaGreatG9FQ4
import Derived.Test.YtbjjekbhopgonaaGreatG9FQ5
import Derived.Test.YtbjjekbhopgonaaGreatG9FQ0
import Derived.Test.YtbjjekbhopgonaaGreatG9FQ15
import Derived.Test.YtbjjekbhopgonaaGreatG9FGood
import Derived.Test.YtbjjekbhopgonaaGreatG9FQ3
import Derived.Test.YtbjjekbhopgonaaGreatG9FQ16
set_option linter.unusedVariables false
set_option linter.unusedSimpArgs false
set_option maxRecDepth 100000
namespace Go.VP
open Go Go.VI
def okR (m : Msg) : Prop := m.kind = 1 ∧ bareB m = true ∧ (m.cmd = 1 ∨ m.cmd = 2) ∧ (m.ver = 1 ∨ m.ver = 2) ∧ m.prefix_.length = 4 ∧ m.next.length = 4 ∧ (m.auth = [] ∨ (m.ver = 2 ∧ m.auth.length = 18)) ∧
  ((m.family = 0 ∧ m.cmd = 1 ∧ m.tag = 0 ∧ m.plen = 0 ∧ m.prefix_ = z4 ∧ m.next = z4 ∧ m.metric = 16) ∨
   (m.family = 2 ∧ 1 ≤ m.metric ∧ m.metric ≤ 16 ∧
     ((m.ver = 1 ∧ m.tag = 0 ∧ m.plen = 32 ∧ m.next = z4) ∨ (m.ver = 2 ∧ 0 ≤ m.tag ∧ m.tag ≤ 65535 ∧ 0 ≤ m.plen ∧ m.plen ≤ 32 ∧ cleanB m.prefix_ m.plen = true))))
open Classical in
noncomputable def rightR (m : Msg) : Bool := decide (okR m)
theorem rightR_true {m : Msg} : rightR m = true ↔ okR m := by unfold rightR; simp
structure RM (m : Msg) : Prop where
  tag : IntKind.has .i64 m.tag
  plen : IntKind.has .i64 m.plen
  list : m.list.length ≤ 1000000000
  subs : m.subs.length ≤ 1000000000
theorem dq_step {R : Type} {p : Prop} [Decidable p] {t f r : R} (h : p → t = r) (h' : ¬ p → f = r) : (if decide p = true then t else f) = r := by
  by_cases hp : p
  · rw [ifd hp]; exact h hp
  · rw [ifn hp]; exact h' hp
theorem nb_step {R : Type} {b : Bool} {t f r : R} (h : b = false → t = r) (h' : b = true → f = r) : (if (!b) = true then t else f) = r := by
  cases b
  · exact h rfl
  · exact h' rfl
theorem be_stepR {R : Type} {x y : Bs} {f t r : R} (heq : x = y → t = r) (hne : x ≠ y → f = r) : (if (x == y) = true then t else f) = r := by
  by_cases h : x = y
  · rw [if_pos (by simp [h])]; exact heq h
  · rw [if_neg (by simpa using h)]; exact hne h
theorem two_step {R : Type} {x a b : Int} {F V r : R} (h1 : ¬ (x = a ∨ x = b) → F = r) (h2 : (x = a ∨ x = b) → V = r) : (if (x != a) = true then (if (x != b) = true then F else V) else V) = r :=
  ne_step (fun ha => ne_step (fun hb => h1 (by omega)) (fun hb => h2 (.inr hb))) (fun ha => h2 (.inl ha))
theorem au_step {R : Type} {s : Bs} {v : Int} {F T r : R} (h1 : ¬ (s = [] ∨ (v ≠ 1 ∧ s.length = 18)) → F = r) (h2 : (s = [] ∨ (v ≠ 1 ∧ s.length = 18)) → T = r) : (if (!(s == ([] : Bs))) = true then (if (v == 1) = true then F else (if ((s.length : Int) != 18) = true then F else T)) else T) = r :=
  nq_step (fun ha => bq_step (fun hb => h1 (by grind)) (fun hb => ne_step (fun hc => h1 (by grind)) (fun hc => h2 (by grind)))) (fun ha => h2 (.inl ha))
theorem rau_step {R : Type} {s : Bs} {v : Int} {F T r : R} (h1 : ¬ (s = [] ∨ (v = 2 ∧ s.length = 18)) → F = r) (h2 : (s = [] ∨ (v = 2 ∧ s.length = 18)) → T = r) : (if (!(s == ([] : Bs))) = true then (if (v != 2) = true then F else (if ((s.length : Int) != 18) = true then F else T)) else T) = r :=
  nq_step (fun ha => ne_step (fun hb => h1 (by grind)) (fun hb => ne_step (fun hc => h1 (by grind)) (fun hc => h2 (by grind)))) (fun ha => h2 (.inl ha))
theorem pright4 {a : Bs} {n : Int} (h : a.length = 4) (hn : IntKind.has .i64 n) : g_prefix_Right (a, n, ()) = some ((decide (0 ≤ n ∧ n ≤ 32) && cleanB a n, ()), ()) := by
  rw [g_prefix_Right_eq, if_pos (by simp [h]), clean_is (by omega) hn, Option.bind_some]
  dsimp only
  refine dq_step (fun h0 => ?_) (fun h0 => ?_)
  · rw [w64 (by omega) (by omega)]
    refine dq_step (fun h1 => ?_) (fun h1 => ?_)
    · rw [decide_eq_true (by omega)]; rfl
    · rw [decide_eq_false (by omega)]; rfl
  · rw [decide_eq_false (by omega)]; rfl
theorem rpright4 {a : Bs} {n : Int} (h : a.length = 4) : g_ref04_Right (a, n, ()) = some ((decide (0 ≤ n ∧ n ≤ 32) && cleanB a n, ()), ()) := by
  rw [g_ref04_Right_eq, if_pos (by simp [h]), rclean_is (by omega), Option.bind_some]
  dsimp only
  refine dq_step (fun h0 => ?_) (fun h0 => ?_)
  · rw [w64 (by omega) (by omega)]
    refine dq_step (fun h1 => ?_) (fun h1 => ?_)
    · rw [decide_eq_true (by omega)]; rfl
    · rw [decide_eq_false (by omega)]; rfl
  · rw [decide_eq_false (by omega)]; rfl
theorem ripRight_is {m : Msg} (g : RM m) : g_rip_Right (m, ()) = some ((rightR m, ()), ()) := by
  have no : ¬ okR m → (some ((false, ()), ()) : Option ((Bool × Unit) × Unit)) = some ((rightR m, ()), ()) := fun h => by
    have : rightR m = false := by cases e : rightR m with | false => rfl | true => exact absurd (rightR_true.1 e) h
    rw [this]
  have yes : ∀ {b : Bool}, (b = true ↔ okR m) → (some ((b, ()), ()) : Option ((Bool × Unit) × Unit)) = some ((rightR m, ()), ()) := fun {b} h => by
    have : b = rightR m := by rw [Bool.eq_iff_iff, h, rightR_true]
    rw [this]
  rw [g_rip_Right_eq]
  refine ne_step (fun hk => no fun h => hk h.1) (fun hk => ?_)
  rw [bare_is, Option.bind_some]
  refine nb_step (fun hb => no fun h => by have := h.2.1; dsimp only at hb; rw [hb] at this; cases this) (fun hb => ?_)
  dsimp only at hb
  rw [g_rip_four_eq, Option.bind_some]
  refine nb_step (fun hp => no fun h => by have := h.2.2.2.2.1; dsimp only at hp; simp at hp; omega) (fun hp => ?_)
  have hp4 : m.prefix_.length = 4 := by simp at hp; omega
  rw [g_rip_four_eq, Option.bind_some]
  refine nb_step (fun hp => no fun h => by have := h.2.2.2.2.2.1; dsimp only at hp; simp at hp; omega) (fun hn => ?_)
  have hn4 : m.next.length = 4 := by simp at hn; omega
  refine two_step (fun hc => no fun h => hc h.2.2.1) (fun hc => ?_)
  refine two_step (fun hv => no fun h => hv h.2.2.2.1) (fun hv => ?_)
  refine au_step (fun ha => no fun h => ha (by have := h.2.2.2.2.2.2.1; grind)) (fun ha => ?_)
  have ha' : m.auth = [] ∨ (m.ver = 2 ∧ m.auth.length = 18) := by grind
  have z8 := zero8 hp4 hn4
  have zn := zero4 hn4
  refine bq_step (fun f0 => ?_) (fun f0 => ?_)
  · refine bq_step (fun c1 => ?_) (fun c1 => no (by grind [okR]))
    refine bq_step (fun t0 => ?_) (fun t0 => no (by grind [okR]))
    refine bq_step (fun p0 => ?_) (fun t0 => no (by grind [okR]))
    refine bq_step (fun m0 => ?_) (fun t0 => no (by grind [okR]))
    rw [if_pos (maxB_of (by omega)), zero_is (by simp; omega), Option.bind_some]
    exact yes (by rw [z8]; grind [okR])
  · refine ne_step (fun f2 => no (by grind [okR])) (fun f2 => ?_)
    refine dq_step (fun h1 => no (by grind [okR])) (fun h1 => ?_)
    refine dq_step (fun h2 => no (by grind [okR])) (fun h2 => ?_)
    refine bq_step (fun v1 => ?_) (fun v1 => ?_)
    · refine bq_step (fun t0 => ?_) (fun t0 => no (by grind [okR]))
      refine bq_step (fun p0 => ?_) (fun t0 => no (by grind [okR]))
      rw [zero_is (by omega), Option.bind_some]
      exact yes (by rw [zn]; grind [okR])
    · have ft := fits_is (k := 2) g.tag (by omega) (by omega)
      rw [show ((2 : Nat) : Int) = 2 from rfl] at ft
      rw [ft, Option.bind_some]
      dsimp only
      have hf : fitsB m.tag 2 = true ↔ 0 ≤ m.tag ∧ m.tag ≤ 65535 := by unfold fitsB; rw [decide_eq_true_eq]; omega
      cases hfb : fitsB m.tag 2 with
      | false => rw [iff_]; exact no (fun h => by
        have : ¬ (0 ≤ m.tag ∧ m.tag ≤ 65535) := by rw [← hf, hfb]; simp
        grind [okR])
      | true =>
        have := hf.1 hfb
        rw [ift, pright4 hp4 g.plen, Option.bind_some]
        exact yes (by rw [Bool.and_eq_true, decide_eq_true_eq]; grind [okR])
theorem rripRight_is {m : Msg} (g : RM m) : g_ref10_Right (m, ()) = some ((rightR m, ()), ()) := by
  have no : ¬ okR m → (some ((false, ()), ()) : Option ((Bool × Unit) × Unit)) = some ((rightR m, ()), ()) := fun h => by
    have : rightR m = false := by cases e : rightR m with | false => rfl | true => exact absurd (rightR_true.1 e) h
    rw [this]
  have yes : ∀ {b : Bool}, (b = true ↔ okR m) → (some ((b, ()), ()) : Option ((Bool × Unit) × Unit)) = some ((rightR m, ()), ()) := fun {b} h => by
    have : b = rightR m := by rw [Bool.eq_iff_iff, h, rightR_true]
    rw [this]
  rw [g_ref10_Right_eq]
  refine ne_step (fun hk => no fun h => hk h.1) (fun hk => ?_)
  rw [rbare_is g.list g.subs, Option.bind_some]
  refine nb_step (fun hb => no fun h => by have := h.2.1; dsimp only at hb; rw [hb] at this; cases this) (fun hb => ?_)
  dsimp only at hb
  refine dq_step (fun h1 => no (by grind [okR])) (fun c1 => ?_)
  refine dq_step (fun h1 => no (by grind [okR])) (fun c2 => ?_)
  refine dq_step (fun h1 => no (by grind [okR])) (fun v1 => ?_)
  refine dq_step (fun h1 => no (by grind [okR])) (fun v2 => ?_)
  refine ne_step (fun h1 => no (by grind [okR])) (fun hp => ?_)
  refine ne_step (fun h1 => no (by grind [okR])) (fun hn => ?_)
  have hp4 : m.prefix_.length = 4 := by omega
  have hn4 : m.next.length = 4 := by omega
  have hc : m.cmd = 1 ∨ m.cmd = 2 := by omega
  have hv : m.ver = 1 ∨ m.ver = 2 := by omega
  refine rau_step (fun ha => no fun h => ha h.2.2.2.2.2.2.1) (fun ha => ?_)
  rw [nought_is, Option.bind_some]
  refine bq_step (fun f0 => ?_) (fun f0 => ?_)
  · refine bq_step (fun c1 => ?_) (fun c1 => no (by grind [okR]))
    refine bq_step (fun t0 => ?_) (fun t0 => no (by grind [okR]))
    refine bq_step (fun p0 => ?_) (fun t0 => no (by grind [okR]))
    refine be_stepR (fun e1 => ?_) (fun t0 => no (by grind [okR]))
    rw [Option.bind_some]
    refine be_stepR (fun e1 => ?_) (fun t0 => no (by grind [okR]))
    exact yes (by rw [beq_iff_eq]; grind [okR])
  · refine ne_step (fun f2 => no (by grind [okR])) (fun f2 => ?_)
    refine dq_step (fun h1 => no (by grind [okR])) (fun h1 => ?_)
    refine dq_step (fun h2 => no (by grind [okR])) (fun h2 => ?_)
    refine bq_step (fun v1 => ?_) (fun v1 => ?_)
    · refine bq_step (fun t0 => ?_) (fun t0 => no (by grind [okR]))
      refine bq_step (fun p0 => ?_) (fun t0 => no (by grind [okR]))
      rw [Option.bind_some]
      exact yes (by rw [beq_iff_eq]; grind [okR])
    · refine dq_step (fun t0 => ?_) (fun t0 => no (by grind [okR]))
      refine dq_step (fun t0 => ?_) (fun t0 => no (by grind [okR]))
      rw [rpright4 hp4, Option.bind_some]
      exact yes (by rw [Bool.and_eq_true, decide_eq_true_eq]; grind [okR])
end Go.VP
set_option linter.unusedVariables false
set_option linter.unusedSimpArgs false
set_option maxRecDepth 100000
namespace Go.VP
open Go Go.VI
abbrev Ent := S_api_Entry
structure EntOk (e : Ent) : Prop where
  fam : 0 ≤ e.family ∧ e.family ≤ 65535
  tag : 0 ≤ e.tag ∧ e.tag ≤ 65535
  addr : e.addr.length = 4
  mask : e.mask.length = 4
  next : e.next.length = 4
  metric : 0 ≤ e.metric ∧ e.metric ≤ 4294967295
end Go.VP
set_option linter.unusedVariables false
set_option linter.unusedSimpArgs false
set_option maxRecDepth 100000
namespace Go.VP
open Go Go.VI
theorem ishr8R {x : Int} (h : 0 ≤ x) : ishr .i64 x 8 = x / 256 := by
  unfold ishr
  rw [show (2 : Int) ^ (min (8 : Int).toNat IntKind.i64.bits) = 256 by decide]
  exact Int.fdiv_eq_ediv_of_nonneg _ (by decide)
theorem pput_loop {c : Nat} : ∀ (i m : Nat) (x : Int) (acc : Bs), i ≤ acc.length → acc.length ≤ 100 → i < m → 0 ≤ x → L_octet_Put_0 c m x ((i : Int) - 1) acc = some ((be i x ++ acc.drop i, true, ()), ())
  | 0, m, x, acc, h1, h2, hm, hx => by
    obtain ⟨m, rfl⟩ : ∃ k, m = k + 1 := ⟨m - 1, by omega⟩
    rw [L_octet_Put_0_eq, ifn (by omega)]; simp [be]
  | i + 1, m, x, acc, h1, h2, hm, hx => by
    obtain ⟨m, rfl⟩ : ∃ k, m = k + 1 := ⟨m - 1, by omega⟩
    have e : (((i + 1 : Nat) : Int) - 1) = (i : Int) := by omega
    rw [L_octet_Put_0_eq, e, ifd (by omega), if_pos (by omega), Int.toNat_natCast, if_pos (by omega), w64 (by omega) (by omega), ishr8R hx, pput_loop i m (x / 256) _ (by simp; omega) (by simp; omega) (by omega) (by omega), wu8, be]
    have : (acc.set i (u8of (x % 256))).drop i = u8of (x % 256) :: acc.drop (i + 1) := by
      rw [List.drop_eq_getElem_cons (by simp; omega), List.getElem_set_self, List.drop_set_of_lt (by omega)]
    rw [this]; simp
theorem oput_is {n : Int} {k : Nat} (hn : IntKind.has .i64 n) (h1 : 1 ≤ k) (h7 : k ≤ 7) (hf : fitsB n k = true) : g_octet_Put (n, (k : Int), ()) = some ((be k n, true, ()), ()) := by
  show h_octet_Put fuel (n, (k : Int), ()) = _
  have h0 : 0 ≤ n := by unfold fitsB at hf; rw [decide_eq_true_eq] at hf; exact hf.1
  rw [h_octet_Put_eq, fits_is hn h1 h7, Option.bind_some, hf]
  dsimp only
  have hr : (k : Int) ≤ roomI := by unfold roomI; omega
  rw [ifnt, if_pos ⟨by omega, hr⟩, w64 (by omega) (by omega), Int.toNat_natCast, pput_loop k fuel n _ (by simp) (by simp; omega) (fuel_ge (by omega)) h0]
  simp
def entB (e : Ent) : Bs := be 2 e.family ++ be 2 e.tag ++ e.addr ++ e.mask ++ e.next ++ be 4 e.metric
theorem fit2 {n : Int} (h : 0 ≤ n ∧ n ≤ 65535) : fitsB n 2 = true := by unfold fitsB; rw [decide_eq_true_eq]; omega
theorem fit4 {n : Int} (h : 0 ≤ n ∧ n ≤ 4294967295) : fitsB n 4 = true := by unfold fitsB; rw [decide_eq_true_eq]; omega
theorem entPut_is {e : Ent} (h : EntOk e) : g_entry_Put (e, ()) = some ((entB e, true, ()), ()) := by
  have h1 := h.addr; have h2 := h.mask; have h3 := h.next; have h4 := h.fam; have h5 := h.tag; have h6 := h.metric
  have hf : IntKind.has .i64 e.family := has64.2 (by omega)
  have ht : IntKind.has .i64 e.tag := has64.2 (by omega)
  have hm : IntKind.has .i64 e.metric := has64.2 (by omega)
  have a1 := fits_is (k := 4) hm (by omega) (by omega)
  have a2 := fits_is (k := 2) hf (by omega) (by omega)
  have a3 := fits_is (k := 2) ht (by omega) (by omega)
  have b1 := oput_is (k := 2) hf (by omega) (by omega) (fit2 h4)
  have b2 := oput_is (k := 2) ht (by omega) (by omega) (fit2 h5)
  have b3 := oput_is (k := 4) hm (by omega) (by omega) (fit4 h6)
  rw [fit4 h6] at a1; rw [fit2 h4] at a2; rw [fit2 h5] at a3
  rw [show ((2 : Nat) : Int) = 2 from rfl] at *
  rw [show ((4 : Nat) : Int) = 4 from rfl] at *
  rw [g_entry_Put_eq, if_neg (by simp; omega), if_neg (by simp; omega), if_neg (by simp; omega), a1, Option.bind_some]
  dsimp only
  rw [ifnt, a2, Option.bind_some]
  dsimp only
  rw [ifnt, a3, Option.bind_some]
  dsimp only
  rw [ifnt, b1, Option.bind_some, b2, Option.bind_some, b3, Option.bind_some]
  dsimp only
  have l2 := be_length 2
  have l4 := be_length 4
  rw [if_pos (maxB_of (by simp [l2])), if_pos (maxB_of (by simp [l2, h1])), if_pos (maxB_of (by simp [l2, h1, h2])), if_pos (maxB_of (by simp [l2, h1, h2, h3])), if_pos (maxB_of (by simp [l2, l4, h1, h2, h3]))]
  rfl
def entM (m : Msg) : Ent := ⟨m.family, m.tag, m.prefix_, (if m.family = 2 ∧ m.ver = 2 then maskF m.plen else z4), m.next, m.metric⟩
def lineF (m : Msg) : Bs := entB (entM m)
theorem entM_ok {m : Msg} (h : okR m) : EntOk (entM m) := by
  obtain ⟨_, _, _, _, hp, hn, _, h⟩ := h
  refine ⟨?_, ?_, hp, ?_, hn, ?_⟩
  · show 0 ≤ m.family ∧ m.family ≤ 65535; omega
  · show 0 ≤ m.tag ∧ m.tag ≤ 65535; omega
  · unfold entM; dsimp only; split
    · exact maskF_length _
    · rfl
  · show 0 ≤ m.metric ∧ m.metric ≤ 4294967295; omega
theorem lineF_length {m : Msg} (h : okR m) : (lineF m).length = 20 := by
  have g := entM_ok h
  unfold lineF entB
  have h1 := g.addr; have h2 := g.mask; have h3 := g.next
  simp [be_length, h1, h2, h3]
theorem zeros4 : g_octet_Zeros (4, ()) = some ((z4, ()), ()) := by
  rw [g_octet_Zeros_eq, if_pos (by unfold roomI; decide)]; rfl
theorem line_is {m : Msg} (h : okR m) : g_rip_line (m, ()) = some ((lineF m, ()), ()) := by
  have g := entPut_is (entM_ok h)
  rw [g_rip_line_eq, zeros4, Option.bind_some]
  refine bq_step (fun f2 => bq_step (fun v2 => ?_) (fun v2 => ?_)) (fun f2 => ?_)
  · have hp : 0 ≤ m.plen ∧ m.plen ≤ 32 := by obtain ⟨_, _, _, _, _, _, _, h⟩ := h; omega
    rw [maskOf_is hp.1 hp.2, Option.bind_some]
    have e : entM m = ⟨m.family, m.tag, m.prefix_, maskF m.plen, m.next, m.metric⟩ := by unfold entM; rw [if_pos ⟨f2, v2⟩]
    rw [e] at g
    dsimp only
    rw [g, Option.bind_some, ← e]; rfl
  · have e : entM m = ⟨m.family, m.tag, m.prefix_, z4, m.next, m.metric⟩ := by unfold entM; rw [if_neg (fun c => v2 c.2)]
    rw [e] at g
    dsimp only
    rw [g, Option.bind_some, ← e]; rfl
  · have e : entM m = ⟨m.family, m.tag, m.prefix_, z4, m.next, m.metric⟩ := by unfold entM; rw [if_neg (fun c => f2 c.1)]
    rw [e] at g
    dsimp only
    rw [g, Option.bind_some, ← e]; rfl
def togP (f m : Msg) : Prop := m.cmd = f.cmd ∧ m.ver = f.ver ∧ m.auth = f.auth ∧ m.family ≠ 0 ∧ f.family ≠ 0
instance (f m : Msg) : Decidable (togP f m) := by unfold togP; infer_instance
def encGo (f : Msg) (most : Int) : List Msg → Nat → Bs → Bs × Int × Int
  | [], _, acc => (acc, 0, 0)
  | m :: r, i, acc => if (i : Int) = most then ([], (i : Int), 8) else if 0 < i ∧ ¬ togP f m then ([], (i : Int), 7) else encGo f most r (i + 1) (acc ++ lineF m)
theorem tog_is (f m : Msg) : ∃ b, g_rip_together (f, m, ()) = some ((b, ()), ()) ∧ (b = true ↔ togP f m) := by
  rw [g_rip_together_eq]
  by_cases h1 : m.cmd = f.cmd
  · rw [if_pos (by simp [h1])]
    by_cases h2 : m.ver = f.ver
    · rw [if_pos (by simp [h2])]
      by_cases h3 : m.auth = f.auth
      · rw [if_pos (by simp [h3])]
        by_cases h4 : m.family = 0
        · rw [if_neg (by simp [h4])]; exact ⟨_, rfl, by simp [togP, h4]⟩
        · rw [if_pos (by simp [h4])]; exact ⟨_, rfl, by simp [togP, h1, h2, h3, h4]⟩
      · rw [if_neg (by simpa using h3)]; exact ⟨_, rfl, by simp [togP, h3]⟩
    · rw [if_neg (by simpa using h2)]; exact ⟨_, rfl, by simp [togP, h2]⟩
  · rw [if_neg (by simpa using h1)]; exact ⟨_, rfl, by simp [togP, h1]⟩
theorem enc1_loop {n : Nat} {l : List Msg} {f : Msg} {most : Int} (hf : l[0]? = some f) (hok : ∀ m ∈ l, okR m) (hl : l.length ≤ 1000) : ∀ (d m i : Nat) (acc : Bs), i + d = l.length → d < m → acc.length ≤ 1000 + 20 * i →
    L_rip_Encode_1 n m l most acc i = some (((encGo f most (l.drop i) i acc).1, (encGo f most (l.drop i) i acc).2.1, (encGo f most (l.drop i) i acc).2.2, ()), ()) := by
  intro d
  induction d with
  | zero =>
    intro m i acc hd hm ha
    obtain ⟨m, rfl⟩ : ∃ k, m = k + 1 := ⟨m - 1, by omega⟩
    rw [L_rip_Encode_1_eq, ifn (by omega), List.drop_eq_nil_of_le (by omega)]; rfl
  | succ d ih =>
    intro m i acc hd hm ha
    obtain ⟨m, rfl⟩ : ∃ k, m = k + 1 := ⟨m - 1, by omega⟩
    have hi : i < l.length := by omega
    have ho := hok _ (List.getElem_mem hi)
    have := ih m (i + 1) (acc ++ lineF l[i]) (by omega) (by omega) (by simp [lineF_length ho]; omega)
    rw [show ((i + 1 : Nat) : Int) = (i : Int) + 1 by omega] at this
    rw [L_rip_Encode_1_eq, ifd (by omega), if_pos (by omega), Int.toNat_natCast, bind_at hi, List.drop_eq_getElem_cons hi, hf, Option.bind_some, line_is ho, Option.bind_some, if_pos (roomB_of (by rw [lineF_length ho]; omega)), w64 (by omega) (by omega), this, encGo]
    refine bq_step (fun h => ?_) (fun h => ?_)
    · rw [if_pos h]
    rw [if_neg h]
    obtain ⟨b, hb, hb'⟩ := tog_is f l[i]
    rw [hb, Option.bind_some]
    refine dq_step (fun h0 => ?_) (fun h0 => ?_)
    · refine nb_step (fun hz => ?_) (fun hz => ?_)
      · rw [if_pos ⟨by omega, by rw [← hb']; dsimp only at hz; rw [hz]; simp⟩]
      · rw [if_neg (fun c => c.2 (hb'.1 hz))]
    · rw [if_neg (fun c => h0 (by omega))]
open Classical in
noncomputable def badR : List Msg → Nat → Option Nat
  | [], _ => none
  | m :: r, i => if okR m then badR r (i + 1) else some i
def mostR (f : Msg) : Int := if f.auth = [] then 25 else 24
def headE (f : Msg) : Bs := [u8of (f.cmd % 256), u8of (f.ver % 256), 0, 0] ++ (if f.auth = [] then [] else [255, 255] ++ f.auth)
noncomputable def encR (l : List Msg) : Bs × Int × Int := match badR l 0 with
  | some i => ([], (i : Int), 1)
  | none => match l with
    | [] => ([], 0, 8)
    | f :: _ => encGo f (mostR f) l 0 (headE f)
theorem badR_none : ∀ {l : List Msg} {i : Nat}, badR l i = none → ∀ m ∈ l, okR m
  | [], _, _, m, hm => by cases hm
  | x :: r, i, h, m, hm => by
    unfold badR at h
    split at h
    · rename_i hx
      rcases List.mem_cons.1 hm with rfl | hm
      · exact hx
      · exact badR_none h m hm
    · cases h
theorem headE_length {f : Msg} (h : okR f) : (headE f).length = if f.auth = [] then 4 else 24 := by
  obtain ⟨_, _, _, _, _, _, ha, _⟩ := h
  unfold headE
  by_cases e : f.auth = []
  · rw [if_pos e, if_pos e]; rfl
  · rw [if_neg e, if_neg e]
    have : f.auth.length = 18 := by rcases ha with h | h; exact absurd h e; exact h.2
    simp [this]
theorem enc_is {l : List Msg} (g : ∀ m ∈ l, RM m) (hl : l.length ≤ 1000) : g_rip_Encode (l, ()) = some (((encR l).1, (encR l).2.1, (encR l).2.2, ()), ()) := by
  show h_rip_Encode fuel (l, ()) = _
  rw [h_rip_Encode_eq]
  have main : ∀ (d m i : Nat), i + d = l.length → d < m → badR l 0 = badR (l.drop i) i → L_rip_Encode_0 fuel m l i = some (((encR l).1, (encR l).2.1, (encR l).2.2, ()), ()) := by
    intro d
    induction d with
    | zero =>
      intro m i hd hm hb
      obtain ⟨m, rfl⟩ : ∃ k, m = k + 1 := ⟨m - 1, by omega⟩
      rw [List.drop_eq_nil_of_le (by omega)] at hb
      have hn : badR l 0 = none := hb
      have hok := badR_none hn
      rw [L_rip_Encode_0_eq, ifn (by omega)]
      cases l with
      | nil => rfl
      | cons f r =>
        have hf := hok f (by simp)
        have hl4 := headE_length hf
        have he : encR (f :: r) = encGo f (mostR f) (f :: r) 0 (headE f) := by unfold encR; rw [hn]
        rw [he, if_neg (by simp; omega)]
        simp only [List.getElem?_cons_zero, Option.bind_some]
        have L := fun (most : Int) (acc : Bs) (h : acc.length ≤ 1000) => enc1_loop (n := fuel) (f := f) (most := most) (l := f :: r) rfl hok hl (f :: r).length fuel 0 acc (by omega) (fuel_ge (by omega)) (by omega)
        rw [g_auth_Put_eq, wu8, wu8]
        by_cases ha : f.auth = []
        · rw [if_pos (by simp [ha]), Option.bind_some]
          have e1 : headE f = [u8of (f.cmd % 256), u8of (f.ver % 256), 0, 0] := by unfold headE; rw [if_pos ha]; rfl
          have e2 : mostR f = 25 := by unfold mostR; rw [if_pos ha]
          dsimp only
          rw [iff_, e1, e2]
          exact L 25 _ (by simp)
        · have h18 : f.auth.length = 18 := by
            obtain ⟨_, _, _, _, _, _, ha', _⟩ := hf
            rcases ha' with h | h
            · exact absurd h ha
            · exact h.2
          rw [if_neg (by simp; omega), if_pos (maxB_of (by omega)), Option.bind_some]
          have e1 : headE f = [u8of (f.cmd % 256), u8of (f.ver % 256), 0, 0] ++ ([255, 255] ++ f.auth) := by unfold headE; rw [if_neg ha]
          have e2 : mostR f = 24 := by unfold mostR; rw [if_neg ha]
          dsimp only
          rw [ift, if_pos (roomB_of (by simp; omega)), e1, e2]
          exact L 24 _ (by simp; omega)
    | succ d ih =>
      intro m i hd hm hb
      obtain ⟨m, rfl⟩ : ∃ k, m = k + 1 := ⟨m - 1, by omega⟩
      have hi : i < l.length := by omega
      rw [List.drop_eq_getElem_cons hi, badR] at hb
      rw [L_rip_Encode_0_eq, ifd (by omega), if_pos (by omega), Int.toNat_natCast, bind_at hi, ripRight_is (g _ (List.getElem_mem hi)), Option.bind_some]
      dsimp only
      by_cases ho : okR l[i]
      · rw [if_pos ho] at hb
        have := ih m (i + 1) (by omega) (by omega) hb
        rw [rightR_true.2 ho, ifnt, w64 (by omega) (by omega)]
        exact this
      · rw [if_neg ho] at hb
        have : rightR l[i] = false := by cases e' : rightR l[i] with | false => rfl | true => exact absurd (rightR_true.1 e') ho
        rw [this, ifnf]
        unfold encR; rw [hb]
  exact main l.length fuel 0 (by omega) (fuel_ge (by omega)) rfl
end Go.VP
set_option linter.unusedVariables false
set_option linter.unusedSimpArgs false
set_option maxRecDepth 100000
namespace Go.VP
open Go Go.VI
theorem goodRM {m : Msg} (g : Good_api_Msg m) (h : Few m) : RM m := by
  obtain ⟨g1, g2, g3, g4, g5, g6, g7, g8, g9, g10, g11, g12, g13, g14, g15, g16, g17, g18, g19, g20, g21, _⟩ := g
  exact ⟨g9, g8, by have := h.list; omega, by have := h.subs; omega⟩
end Go.VP
set_option linter.unusedVariables false
set_option linter.unusedSimpArgs false
set_option maxRecDepth 100000
namespace Go.VP
open Go Go.VI
theorem enc_good {f : Msg} {most : Int} : ∀ (l : List Msg) (i : Nat) (acc : Bs), (i + l.length : Nat) ≤ most → (∀ (j : Nat) (h : j < l.length), 0 < i + j → togP f l[j]) → encGo f most l i acc = (acc ++ l.flatMap lineF, 0, 0)
  | [], i, acc, _, _ => by simp [encGo]
  | m :: r, i, acc, h, ht => by
    rw [encGo, if_neg (by simp at h; omega), if_neg (fun c => c.2 (ht 0 (by simp) (by omega))), enc_good r (i + 1) _ (by simp at h ⊢; omega) (fun j hj _ => by
      have := ht (j + 1) (by simp; omega) (by omega)
      simpa using this)]
    simp
end Go.VP
set_option linter.unusedVariables false
set_option linter.unusedSimpArgs false
set_option maxRecDepth 100000
namespace Go.VP
open Go Go.VI
def extB (l : List Sub) : Bool := l.all (subB 0 255)
def AllE (l : List Sub) : Prop := ∀ y ∈ l, 0 ≤ y.type_ ∧ y.type_ ≤ 255 ∧ y.data.length ≤ 255
theorem allE_iff {l : List Sub} : extB l = true ↔ AllE l := by simp [extB, subB, AllE]
theorem eright_is {l : List Sub} (hl : l.length ≤ 1000000000) : g_ext_Right (l, ()) = some ((extB l, ()), ()) := by
  rw [g_ext_Right_eq, subs_is hl]; rfl
theorem reright_is {l : List Sub} (hl : l.length ≤ 1000000000) : g_ref13_Right (l, ()) = some ((extB l, ()), ()) := by
  rw [g_ref13_Right_eq, rsubs_is hl]; rfl
theorem u8t {y : Sub} (h : 0 ≤ y.type_ ∧ y.type_ ≤ 255 ∧ y.data.length ≤ 255) : u8of (IntKind.wrap .u8 y.type_) = u8of y.type_ ∧ u8of (IntKind.wrap .u8 (y.data.length : Int)) = u8of y.data.length := by
  rw [wu8, wu8, u8of_emod' h.1, u8of_emod' (by omega)]; exact ⟨rfl, rfl⟩
theorem eput_loop {l : List Sub} {n : Nat} (hr : AllE l) (h1 : l.length ≤ 1000000) : ∀ (d m i : Nat) (acc : Bs), i + d = l.length → d < m → acc.length ≤ 257 * i →
    L_ext_Put_0 n m l acc i = some ((acc ++ encS (l.drop i), true, ()), ()) := by
  intro d
  induction d with
  | zero =>
    intro m i acc hd hm ha
    obtain ⟨m, rfl⟩ : ∃ k, m = k + 1 := ⟨m - 1, by omega⟩
    rw [L_ext_Put_0_eq, ifn (by omega), List.drop_eq_nil_of_le (by omega), encS, List.append_nil]
  | succ d ih =>
    intro m i acc hd hm ha
    obtain ⟨m, rfl⟩ : ∃ k, m = k + 1 := ⟨m - 1, by omega⟩
    have hlt : i < l.length := by omega
    have hy := hr l[i] (List.getElem_mem hlt)
    have := ih m (i + 1) (acc ++ [u8of l[i].type_, u8of l[i].data.length] ++ l[i].data) (by omega) (by omega) (by simp; omega)
    rw [show ((i + 1 : Nat) : Int) = (i : Int) + 1 by omega] at this
    rw [L_ext_Put_0_eq, ifd (by omega), if_pos (by omega), Int.toNat_natCast, bind_at hlt, (u8t hy).1, (u8t hy).2, if_pos (roomB_of (by simp; omega)), if_pos (roomB_of (by simp; omega)), w64 (by omega) (by omega), this, List.drop_eq_getElem_cons hlt, encS]
    simp
def putE (l : List Sub) : Bs × Bool := if extB l = true then (encS l, true) else ([], false)
theorem putE_ok {l : List Sub} (h : extB l = true) : putE l = (encS l, true) := by unfold putE; rw [if_pos h]
theorem eput_is {l : List Sub} (hl : FewS l) (h1 : l.length ≤ 1000000) : g_ext_Put (l, ()) = some (((putE l).1, (putE l).2, ()), ()) := by
  show h_ext_Put fuel _ = _
  have hs := sumN_rng hl
  rw [h_ext_Put_eq, eright_is hl.1, Option.bind_some]
  unfold putE
  dsimp only
  by_cases h : extB l = true
  · have := eput_loop (n := fuel) (allE_iff.1 h) h1 l.length fuel 0 [] (by omega) (fuel_ge (by omega)) (by simp)
    rw [show ((0 : Nat) : Int) = 0 from rfl] at this
    rw [h, ifnt, bytes_is hl, Option.bind_some, if_pos (show 0 ≤ sumN l ∧ sumN l ≤ roomI by unfold roomI; omega), this, ift]
    simp
  · rw [Bool.not_eq_true] at h
    rw [h, ifnf, iff_]
end Go.VP
set_option linter.unusedVariables false
set_option linter.unusedSimpArgs false
set_option maxRecDepth 100000
namespace Go.VP
open Go Go.VI
def z16 : Bs := [0, 0, 0, 0, 0, 0, 0, 0, 0, 0, 0, 0, 0, 0, 0, 0]
theorem zeros16 : g_octet_Zeros (16, ()) = some ((z16, ()), ()) := by
  rw [g_octet_Zeros_eq, if_pos (by unfold roomI; decide)]; rfl
theorem none12_is : g_ref12_none () = some ((z16, ()), ()) := by
  rw [g_ref12_none_eq, g_ref02_Zeros_eq, ifn (by decide), if_pos (by unfold roomI; decide), Option.bind_some]; rfl
def preB (a : Bs) (n : Int) : Bool := decide (0 ≤ n ∧ n ≤ 128) && cleanB a n
theorem pright16_is {a : Bs} {n : Int} (h : a.length = 16) (hn : IntKind.has .i64 n) : g_prefix_Right (a, n, ()) = some ((preB a n, ()), ()) := by
  have h8 : IntKind.wrap .i64 (8 * (a.length : Int)) = 128 := by rw [h]; rfl
  rw [g_prefix_Right_eq, h8]
  unfold preB
  refine bq_step (fun q => by omega) (fun _ => ?_)
  refine bq_step (fun _ => ?_) (fun q => by omega)
  refine dq_step' (fun h0 => ?_) (fun h0 => ?_)
  · refine dq_step' (fun h1 => ?_) (fun h1 => ?_)
    · rw [clean_is (by omega) hn, Option.bind_some, decide_eq_true ⟨h0, h1⟩, Bool.true_and]
    · rw [decide_eq_false (fun q => h1 q.2), Bool.false_and]
  · rw [decide_eq_false (fun q => h0 q.1), Bool.false_and]
theorem rright16_is {a : Bs} {n : Int} (h : a.length = 16) : g_ref04_Right (a, n, ()) = some ((preB a n, ()), ()) := by
  rw [rright4_is (by omega) (.inr h), h]; rfl
structure NgR (m : Msg) : Prop where
  kind : m.kind = 2
  bare : bareB m = true
  cmd : m.cmd = 1 ∨ m.cmd = 2
  tag : 0 ≤ m.tag ∧ m.tag < 65536
  metric : 1 ≤ m.metric ∧ m.metric ≤ 16
  len : m.prefix_.length = 16
  pre : preB m.prefix_ m.plen = true
  next : m.next = z16 ∨ linkB m.next = true
open Classical in
noncomputable def ngB (m : Msg) : Bool := decide (NgR m)
theorem ngR_iff {m : Msg} : ngB m = true ↔ NgR m := by simp [ngB]
theorem ngB_no {m : Msg} (h : ¬ NgR m) : ngB m = false := by simp [ngB, h]
theorem NgR.next16 {m : Msg} (h : NgR m) : m.next.length = 16 := by
  rcases h.next with e | e
  · rw [e]; rfl
  · exact (linkB_len e).1
theorem NgR.plen {m : Msg} (h : NgR m) : 0 ≤ m.plen ∧ m.plen ≤ 128 := by
  have := h.pre; unfold preB at this; simp at this; exact this.1
structure GoodG (m : Msg) : Prop where
  tag : IntKind.has .i64 m.tag
  plen : IntKind.has .i64 m.plen
  cmd : IntKind.has .i64 m.cmd
  list : m.list.length ≤ 1000000000
  subs : m.subs.length ≤ 1000000000
theorem link_or {m : Msg} {r : Option ((Bool × Unit) × Unit)} (h : r = some ((linkB m.next, ()), ())) (hk : NgR m ↔ (m.next = z16 ∨ linkB m.next = true)) : (if (m.next == z16) = true then (some ((true, ()), ()) : Option ((Bool × Unit) × Unit)) else r.bind fun r5 => some ((r5.1.1, ()), ())) = some ((ngB m, ()), ()) := by
  refine be_step (fun q => by rw [ngR_iff.2 (hk.2 (.inl q))]) (fun q => ?_)
  rw [h, Option.bind_some]
  cases hl : linkB m.next with
  | true => rw [ngR_iff.2 (hk.2 (.inr hl))]
  | false => rw [ngB_no (fun x => by rcases hk.1 x with e | e; exact q e; rw [hl] at e; cases e)]
theorem ngright_is {m : Msg} (g : GoodG m) : g_ripng_Right (m, ()) = some ((ngB m, ()), ()) := by
  rw [g_ripng_Right_eq]
  have no : ¬ NgR m → (some ((false, ()), ()) : Option ((Bool × Unit) × Unit)) = some ((ngB m, ()), ()) := fun h => by rw [ngB_no h]
  have tail : (m.kind = 2) → bareB m = true → (m.cmd = 1 ∨ m.cmd = 2) → ((g_octet_Fits (m.tag, 2, ())).bind fun r6 => (if (!r6.1.1) = true then some ((false, ()), ()) else (if (decide (m.metric < 1)) = true then some ((false, ()), ()) else (if (decide (16 < m.metric)) = true then some ((false, ()), ()) else (if ((m.prefix_.length : Int) != 16) = true then some ((false, ()), ()) else ((g_prefix_Right (m.prefix_, m.plen, ())).bind fun r7 => (if (!r7.1.1) = true then some ((false, ()), ()) else ((g_octet_Zeros (16, ())).bind fun r8 => (if (m.next == r8.1.1) = true then some ((true, ()), ()) else ((g_addr_Link (m.next, ())).bind fun r9 => some ((r9.1.1, ()), ())))))))))))= (some ((ngB m, ()), ()) : Option ((Bool × Unit) × Unit)) := by
    intro hk hb hc
    rw [show g_octet_Fits (m.tag, 2, ()) = some ((fitsB m.tag 2, ()), ()) from fits_is (k := 2) g.tag (by omega) (by omega), Option.bind_some]
    dsimp only
    cases hf : fitsB m.tag 2 with
    | false => rw [ifnf]; exact no (fun h => by rw [fitsB2.2 h.tag] at hf; cases hf)
    | true =>
      rw [ifnt]
      refine dq_step' (fun q => no (fun h => by have := h.metric; omega)) (fun h1 => ?_)
      refine dq_step' (fun q => no (fun h => by have := h.metric; omega)) (fun h2 => ?_)
      refine ne_step (fun q => no (fun h => by have := h.len; omega)) (fun h3 => ?_)
      rw [pright16_is (by omega) g.plen, Option.bind_some]
      dsimp only
      cases hp : preB m.prefix_ m.plen with
      | false => rw [ifnf]; exact no (fun h => by rw [h.pre] at hp; cases hp)
      | true =>
        rw [ifnt, zeros16, Option.bind_some]
        exact link_or (link_is _) ⟨fun h => h.next, fun h => ⟨hk, hb, hc, fitsB2.1 hf, by omega, by omega, hp, h⟩⟩
  refine ne_step (fun q => no (fun h => q h.kind)) (fun hk => ?_)
  rw [bare_is, Option.bind_some]
  dsimp only
  cases hb : bareB m with
  | false => rw [ifnf]; exact no (fun h => by rw [h.bare] at hb; cases hb)
  | true =>
    rw [ifnt]
    refine ne_step (fun q1 => ?_) (fun q1 => tail hk hb (.inl q1))
    exact ne_step (fun q2 => no (fun h => by have := h.cmd; omega)) (fun q2 => tail hk hb (.inr q2))
theorem rngright_is {m : Msg} (g : GoodG m) : g_ref12_Right (m, ()) = some ((ngB m, ()), ()) := by
  rw [g_ref12_Right_eq]
  have no : ¬ NgR m → (some ((false, ()), ()) : Option ((Bool × Unit) × Unit)) = some ((ngB m, ()), ()) := fun h => by rw [ngB_no h]
  refine bq_step (fun hk => ?_) (fun q => no (fun h => q h.kind))
  rw [rbare_is g.list g.subs, Option.bind_some]
  dsimp only
  cases hb : bareB m with
  | false => rw [iff_]; exact no (fun h => by rw [h.bare] at hb; cases hb)
  | true =>
    rw [ift]
    refine dq_step' (fun h1 => ?_) (fun q => no (fun h => by have := h.cmd; omega))
    refine dq_step' (fun h2 => ?_) (fun q => no (fun h => by have := h.cmd; omega))
    refine dq_step' (fun h3 => ?_) (fun q => no (fun h => by have := h.tag; omega))
    refine dq_step' (fun h4 => ?_) (fun q => no (fun h => by have := h.tag; omega))
    refine dq_step' (fun h5 => ?_) (fun q => no (fun h => by have := h.metric; omega))
    refine dq_step' (fun h6 => ?_) (fun q => no (fun h => by have := h.metric; omega))
    refine bq_step (fun h7 => ?_) (fun q => no (fun h => by have := h.len; omega))
    rw [rright16_is (by omega), Option.bind_some]
    dsimp only
    cases hp : preB m.prefix_ m.plen with
    | false => rw [iff_]; exact no (fun h => by rw [h.pre] at hp; cases hp)
    | true =>
      rw [ift, none12_is, Option.bind_some]
      exact link_or (rlink_is _) ⟨fun h => h.next, fun h => ⟨hk, hb, by omega, by omega, by omega, by omega, hp, h⟩⟩
abbrev EntN := S_api_Entry
def entG (a : Bs) (t f m : Int) : Bs := a ++ (be 2 t ++ [u8of f, u8of m])
theorem entG_len {a : Bs} (h : a.length = 16) (t f m : Int) : (entG a t f m).length = 20 := by unfold entG; simp [be_length]; omega
theorem rteput_is {a : Bs} {t f m : Int} (ha : a.length = 16) (ht : 0 ≤ t ∧ t < 65536) (hf : 0 ≤ f ∧ f < 256) (hm : 0 ≤ m ∧ m < 256) : g_rte_Put (⟨f, t, a, [], [], m⟩, ()) = some ((entG a t f m, true, ()), ()) := by
  have f1 : ∀ {n : Int}, 0 ≤ n ∧ n < 256 → fitsB n 1 = true := fun h => by unfold fitsB; rw [decide_eq_true_eq]; omega
  rw [g_rte_Put_eq]
  dsimp only
  refine ne_step (fun q => by omega) (fun _ => ?_)
  rw [if_pos (maxB_of (by simp)), if_neg (by simp), show g_octet_Fits (t, 2, ()) = some ((fitsB t 2, ()), ()) from fits_is (k := 2) (has64.2 (by omega)) (by omega) (by omega), Option.bind_some, fitsB2.2 ht]
  dsimp only
  rw [ifnt, show g_octet_Fits (f, 1, ()) = some ((fitsB f 1, ()), ()) from fits_is (k := 1) (has64.2 (by omega)) (by omega) (by omega), Option.bind_some, f1 hf]
  dsimp only
  rw [ifnt, show g_octet_Fits (m, 1, ()) = some ((fitsB m 1, ()), ()) from fits_is (k := 1) (has64.2 (by omega)) (by omega) (by omega), Option.bind_some, f1 hm]
  dsimp only
  rw [ifnt, if_pos (maxB_of (by simp; omega)), u8w hf.1, u8w hm.1]
  unfold entG
  rw [← be2 ht]; rfl
end Go.VP
set_option linter.unusedVariables false
set_option linter.unusedSimpArgs false
set_option maxRecDepth 100000
namespace Go.VP
open Go Go.VI
structure EntKN (e : EntN) : Prop where
  addr : e.addr.length = 16
  tag : 0 ≤ e.tag ∧ e.tag < 65536
  fam : 0 ≤ e.family ∧ e.family < 256
  met : 0 ≤ e.metric ∧ e.metric < 256
end Go.VP
set_option linter.unusedVariables false
set_option linter.unusedSimpArgs false
set_option maxRecDepth 100000
namespace Go.VP
open Go Go.VI
def hopL (nx : Bs) (m : Msg) : Bs := if m.next = nx then [] else entG m.next 0 0 255
def lineN (nx : Bs) (m : Msg) : Bs := hopL nx m ++ entG m.prefix_ m.tag m.plen m.metric
theorem lineN_len {nx : Bs} {m : Msg} (h : NgR m) : (lineN nx m).length = if m.next = nx then 20 else 40 := by
  unfold lineN hopL
  split <;> simp [entG_len h.len, entG_len h.next16]
def encN (c : Int) : List Msg → Nat → Bs → Bs → Bs × Int × Int
  | [], _, acc, _ => (acc, 0, 0)
  | m :: r, i, acc, nx => if m.cmd ≠ c then ([], (i : Int), 7) else if 65535 < (acc ++ lineN nx m).length then ([], (i : Int), 10) else encN c r (i + 1) (acc ++ lineN nx m) m.next
theorem ngput_is {acc nx a : Bs} {t f m : Int} (ha : a.length = 16) (ht : 0 ≤ t ∧ t < 65536) (hf : 0 ≤ f ∧ f < 256) (hm : 0 ≤ m ∧ m < 256) (hl : acc.length ≤ 1000000) :
    g_ripng_writer_put (⟨acc, nx⟩, ⟨f, t, a, [], [], m⟩, ()) = some ((), (⟨acc ++ entG a t f m, nx⟩, ())) := by
  rw [g_ripng_writer_put_eq, rteput_is ha ht hf hm, Option.bind_some]
  dsimp only
  rw [if_pos (roomB_of (by rw [entG_len ha]; omega))]
theorem ngroute_is {acc nx : Bs} {m : Msg} (h : NgR m) (hl : acc.length ≤ 100000) : g_ripng_writer_route (⟨acc, nx⟩, m, ()) = some ((), (⟨acc ++ lineN nx m, m.next⟩, ())) := by
  have hp := h.plen
  have hm := h.metric
  rw [g_ripng_writer_route_eq]
  unfold lineN hopL
  refine nq_step (fun q => ?_) (fun q => ?_)
  · rw [if_neg q, ngput_is h.next16 (by omega) (by omega) (by omega) (by show acc.length ≤ _; omega), Option.bind_some]
    dsimp only
    rw [ngput_is h.len h.tag (by omega) (by omega) (by rw [List.length_append, entG_len h.next16]; omega), Option.bind_some, List.append_assoc]
  · dsimp only at q
    rw [if_pos q, ngput_is h.len h.tag (by omega) (by omega) (by omega), Option.bind_some, q]
    rfl
theorem ngenc_loop {n : Nat} {l : List Msg} {f : Msg} (hf : l[0]? = some f) (hok : ∀ m ∈ l, NgR m) (hl : l.length ≤ 1000000) : ∀ (d m i : Nat) (acc nx : Bs), i + d = l.length → d < m → acc.length ≤ 65535 →
    L_ripng_Encode_1 n m l acc nx i = some (trip (encN f.cmd (l.drop i) i acc nx), ()) := by
  intro d
  induction d with
  | zero =>
    intro m i acc nx hd hm ha
    obtain ⟨m, rfl⟩ : ∃ k, m = k + 1 := ⟨m - 1, by omega⟩
    rw [L_ripng_Encode_1_eq, ifn (by omega), List.drop_eq_nil_of_le (by omega)]; try rfl
  | succ d ih =>
    intro m i acc nx hd hm ha
    obtain ⟨m, rfl⟩ : ∃ k, m = k + 1 := ⟨m - 1, by omega⟩
    have hi : i < l.length := by omega
    have ho := hok _ (List.getElem_mem hi)
    rw [L_ripng_Encode_1_eq, ifd (by omega), if_pos (by omega), Int.toNat_natCast, bind_at hi, hf, Option.bind_some, List.drop_eq_getElem_cons hi, encN, ngroute_is ho (by omega), Option.bind_some]
    refine ne_step (fun h => ?_) (fun h => ?_)
    · rw [if_pos h]; try rfl
    rw [if_neg (show ¬ l[i].cmd ≠ f.cmd from fun c => c h)]
    refine dq_step (fun h => ?_) (fun h => ?_)
    · rw [if_pos (show 65535 < (acc ++ lineN nx l[i]).length by dsimp only at h; omega)]; try rfl
    · dsimp only at h
      have := ih m (i + 1) (acc ++ lineN nx l[i]) l[i].next (by omega) (by omega) (by omega)
      rw [show ((i + 1 : Nat) : Int) = (i : Int) + 1 by omega] at this
      rw [if_neg (show ¬ 65535 < (acc ++ lineN nx l[i]).length by omega), w64 (by omega) (by omega)]
      exact this
def badP (f : Msg → Bool) : List Msg → Nat → Option Nat
  | [], _ => none
  | m :: r, i => if f m = true then badP f r (i + 1) else some i
theorem badP_none {f : Msg → Bool} : ∀ {l : List Msg} {i : Nat}, badP f l i = none → ∀ m ∈ l, f m = true
  | [], _, _, m, hm => by cases hm
  | x :: r, i, h, m, hm => by
    unfold badP at h
    split at h
    · rename_i hx
      rcases List.mem_cons.1 hm with rfl | hm
      · exact hx
      · exact badP_none h m hm
    · cases h
theorem badP_ok {f : Msg → Bool} : ∀ {l : List Msg} {i : Nat}, (∀ m ∈ l, f m = true) → badP f l i = none
  | [], _, _ => rfl
  | x :: r, i, h => by
    unfold badP; rw [if_pos (h x (by simp))]; exact badP_ok (fun m hm => h m (by simp [hm]))
noncomputable def encNg (l : List Msg) : Bs × Int × Int := match badP ngB l 0 with
  | some i => ([], (i : Int), 1)
  | none => match l with
    | [] => ([], 0, 8)
    | f :: _ => encN f.cmd l 0 [u8of f.cmd, 1, 0, 0] z16
theorem ngenc_is {l : List Msg} (g : ∀ m ∈ l, GoodG m) (hl : l.length ≤ 1000000) : g_ripng_Encode (l, ()) = some (trip (encNg l), ()) := by
  show h_ripng_Encode fuel (l, ()) = _
  rw [h_ripng_Encode_eq]
  have main : ∀ (d m i : Nat), i + d = l.length → d < m → badP ngB l 0 = badP ngB (l.drop i) i → L_ripng_Encode_0 fuel m l i = some (trip (encNg l), ()) := by
    intro d
    induction d with
    | zero =>
      intro m i hd hm hb
      obtain ⟨m, rfl⟩ : ∃ k, m = k + 1 := ⟨m - 1, by omega⟩
      rw [List.drop_eq_nil_of_le (by omega)] at hb
      have hn : badP ngB l 0 = none := hb
      have hok := badP_none hn
      rw [L_ripng_Encode_0_eq, ifn (by omega)]
      cases l with
      | nil => rfl
      | cons f r =>
        have hf := ngR_iff.1 (hok f (by simp))
        have he : encNg (f :: r) = encN f.cmd (f :: r) 0 [u8of f.cmd, 1, 0, 0] z16 := by unfold encNg; rw [hn]
        have L := ngenc_loop (n := fuel) (f := f) (l := f :: r) rfl (fun m hm => ngR_iff.1 (hok m hm)) hl (f :: r).length fuel 0 [u8of f.cmd, 1, 0, 0] z16 (by omega) (fuel_ge (by omega)) (by simp)
        have hc := hf.cmd
        rw [he, if_neg (by simp; omega), show (f :: r)[0]? = some f from rfl, Option.bind_some, zeros16, Option.bind_some, wu8, u8of_emod' (by omega)]
        exact L
    | succ d ih =>
      intro m i hd hm hb
      obtain ⟨m, rfl⟩ : ∃ k, m = k + 1 := ⟨m - 1, by omega⟩
      have hi : i < l.length := by omega
      rw [List.drop_eq_getElem_cons hi, badP] at hb
      rw [L_ripng_Encode_0_eq, ifd (by omega), if_pos (by omega), Int.toNat_natCast, bind_at hi, ngright_is (g _ (List.getElem_mem hi)), Option.bind_some]
      dsimp only
      cases ho : ngB l[i] with
      | true =>
        rw [if_pos ho] at hb
        have := ih m (i + 1) (by omega) (by omega) hb
        rw [ifnt, w64 (by omega) (by omega)]
        exact this
      | false =>
        rw [if_neg (by rw [ho]; simp)] at hb
        rw [ifnf]
        unfold encNg; rw [hb]; try rfl
  exact main l.length fuel 0 (by omega) (fuel_ge (by omega)) rfl
end Go.VP
set_option linter.unusedVariables false
set_option linter.unusedSimpArgs false
set_option maxRecDepth 100000
namespace Go.VP
open Go Go.VI
def linesN : Bs → List Msg → Bs
  | _, [] => []
  | nx, m :: r => lineN nx m ++ linesN m.next r
theorem encN_fine {c : Int} : ∀ {l : List Msg} {i : Nat} {acc nx : Bs}, (∀ m ∈ l, m.cmd = c) → (acc ++ linesN nx l).length ≤ 65535 → encN c l i acc nx = (acc ++ linesN nx l, 0, 0)
  | [], i, acc, nx, _, _ => by simp [encN, linesN]
  | m :: r, i, acc, nx, h, hl => by
    unfold linesN at hl ⊢
    rw [← List.append_assoc] at hl ⊢
    unfold encN
    rw [if_neg (fun q => q (h m (List.mem_cons_self ..))), if_neg (by rw [List.length_append] at hl; omega)]
    exact encN_fine (fun x hx => h x (List.mem_cons_of_mem _ hx)) hl
theorem ng_is {f : Msg} {r : List Msg} (h : ∀ m ∈ f :: r, NgR m) : encNg (f :: r) = encN f.cmd (f :: r) 0 [u8of f.cmd, 1, 0, 0] z16 := by
  unfold encNg
  rw [badP_ok fun m hm => ngR_iff.2 (h m hm)]
end Go.VP
set_option linter.unusedVariables false
set_option linter.unusedSimpArgs false
set_option maxRecDepth 100000
namespace Go.VP
open Go Go.VI
def W32 (n : Int) : Prop := 0 ≤ n ∧ n < 4294967296
def W8 (n : Int) : Prop := 0 ≤ n ∧ n < 256
theorem fitsB4 {n : Int} : fitsB n 4 = true ↔ W32 n := by simp [fitsB, W32]
theorem fitsB1 {n : Int} : fitsB n 1 = true ↔ W8 n := by simp [fitsB, W8]
theorem pf4 {n : Int} (h : IntKind.has .i64 n) : g_octet_Fits (n, 4, ()) = some ((fitsB n 4, ()), ()) := fits_is (k := 4) h (by omega) (by omega)
theorem pf1 {n : Int} (h : IntKind.has .i64 n) : g_octet_Fits (n, 1, ()) = some ((fitsB n 1, ()), ()) := fits_is (k := 1) h (by omega) (by omega)
theorem rf4 {n : Int} : g_ref02_Fits (n, 4, ()) = some ((fitsB n 4, ()), ()) := rfits_is (k := 4) (by omega) (by omega)
theorem rf1 {n : Int} : g_ref02_Fits (n, 1, ()) = some ((fitsB n 1, ()), ()) := rfits_is (k := 1) (by omega) (by omega)
structure RqR (m : Msg) : Prop where
  kind : m.kind = 3
  bare : bareB m = true
  flags : 0 ≤ m.flags ∧ m.flags ≤ 31
  addr : m.addr.length = 4
  orig : m.orig.length = 4
  nonce : W32 m.nonce
  seq : W32 m.seq
  seq2 : W32 m.seq2
  hops : W8 m.hops
  subs : extB m.subs = true
structure RpR (m : Msg) : Prop where
  kind : m.kind = 4
  bare : bareB m = true
  flags : 0 ≤ m.flags ∧ m.flags ≤ 3
  plen : 0 ≤ m.plen ∧ m.plen ≤ 31
  addr : m.addr.length = 4
  orig : m.orig.length = 4
  seq : W32 m.seq
  life : W32 m.interval
  hops : W8 m.hops
  subs : extB m.subs = true
structure AkR (m : Msg) : Prop where
  kind : m.kind = 6
  bare : bareB m = true
  subs : extB m.subs = true
def destB (d : Dest) : Bool := decide (d.addr.length = 4) && fitsB d.seq 4
structure ReR (m : Msg) : Prop where
  kind : m.kind = 5
  bare : bareB m = true
  flags : m.flags = 0 ∨ m.flags = 1
  len : 1 ≤ m.list.length ∧ m.list.length ≤ 255
  list : m.list.all destB = true
  subs : extB m.subs = true
open Classical in
noncomputable def rqB (m : Msg) : Bool := decide (RqR m)
open Classical in
noncomputable def rpB (m : Msg) : Bool := decide (RpR m ∨ AkR m)
open Classical in
noncomputable def reB (m : Msg) : Bool := decide (ReR m)
theorem rqB_iff {m : Msg} : rqB m = true ↔ RqR m := by simp [rqB]
theorem rpB_iff {m : Msg} : rpB m = true ↔ (RpR m ∨ AkR m) := by simp [rpB]
theorem reB_iff {m : Msg} : reB m = true ↔ ReR m := by simp [reB]
theorem b_eq {a b : Bool} (h : a = true ↔ b = true) : a = b := by cases a <;> cases b <;> simp_all
theorem b_no {b : Bool} (h : ¬ b = true) : b = false := by cases b <;> simp_all
structure GoodV (m : Msg) : Prop where
  nonce : IntKind.has .i64 m.nonce
  seq : IntKind.has .i64 m.seq
  seq2 : IntKind.has .i64 m.seq2
  hops : IntKind.has .i64 m.hops
  life : IntKind.has .i64 m.interval
  list : m.list.length ≤ 1000000
  ds : ∀ d ∈ m.list, IntKind.has .i64 d.seq
  subs : FewS m.subs
  subs1 : m.subs.length ≤ 1000000
theorem rq_loop {n k : Nat} {m : Msg} (g : GoodV m) : L_rreq_Right_0 n (k + 4) m [m.nonce, m.seq, m.seq2] 3 0 = some ((fitsB m.nonce 4 && (fitsB m.seq 4 && (fitsB m.seq2 4 && (fitsB m.hops 1 && extB m.subs))), ()), ()) := by
  rw [L_rreq_Right_0_eq, ifd (by decide), if_pos (by decide), show ([m.nonce, m.seq, m.seq2])[(0 : Int).toNat]? = some m.nonce from rfl, Option.bind_some, pf4 g.nonce, Option.bind_some]
  dsimp only
  cases fitsB m.nonce 4 with
  | false => rfl
  | true =>
    rw [ifnt, show IntKind.wrap .i64 ((0 : Int) + 1) = 1 from rfl, L_rreq_Right_0_eq, ifd (by decide), if_pos (by decide), show ([m.nonce, m.seq, m.seq2])[(1 : Int).toNat]? = some m.seq from rfl, Option.bind_some, pf4 g.seq, Option.bind_some]
    dsimp only
    cases fitsB m.seq 4 with
    | false => rfl
    | true =>
      rw [ifnt, show IntKind.wrap .i64 ((1 : Int) + 1) = 2 from rfl, L_rreq_Right_0_eq, ifd (by decide), if_pos (by decide), show ([m.nonce, m.seq, m.seq2])[(2 : Int).toNat]? = some m.seq2 from rfl, Option.bind_some, pf4 g.seq2, Option.bind_some]
      dsimp only
      cases fitsB m.seq2 4 with
      | false => rfl
      | true =>
        rw [ifnt, show IntKind.wrap .i64 ((2 : Int) + 1) = 3 from rfl, L_rreq_Right_0_eq, ifn (by decide), pf1 g.hops, Option.bind_some]
        dsimp only
        cases fitsB m.hops 1 with
        | false => rfl
        | true => rw [ift, eright_is g.subs.1]; rfl
theorem rqB_all {m : Msg} (hk : m.kind = 3) (hb : bareB m = true) (h0 : 0 ≤ m.flags) (h1 : m.flags ≤ 31) (ha : m.addr.length = 4) (ho : m.orig.length = 4) : rqB m = (fitsB m.nonce 4 && (fitsB m.seq 4 && (fitsB m.seq2 4 && (fitsB m.hops 1 && extB m.subs)))) := by
  apply b_eq
  simp only [Bool.and_eq_true, rqB_iff, fitsB4, fitsB1]
  exact ⟨fun h => ⟨h.nonce, h.seq, h.seq2, h.hops, h.subs⟩, fun ⟨a, b, c, d, e⟩ => ⟨hk, hb, ⟨h0, h1⟩, ha, ho, a, b, c, d, e⟩⟩
theorem rqright_is {m : Msg} (g : GoodV m) : g_rreq_Right (m, ()) = some ((rqB m, ()), ()) := by
  show h_rreq_Right fuel _ = _
  have no : ¬ RqR m → (some ((false, ()), ()) : Option ((Bool × Unit) × Unit)) = some ((rqB m, ()), ()) := fun h => by rw [b_no (fun q => h (rqB_iff.1 q))]
  rw [h_rreq_Right_eq]
  refine ne_step (fun q => no (fun h => q h.kind)) (fun hk => ?_)
  rw [bare_is, Option.bind_some]
  refine nb_step (fun q => no (fun h => by have := h.bare; dsimp only at q; rw [q] at this; cases this)) (fun hb => ?_)
  refine dq_step (fun q => no (fun h => by have := h.flags; omega)) (fun h0 => ?_)
  refine dq_step (fun q => no (fun h => by have := h.flags; omega)) (fun h1 => ?_)
  refine ne_step (fun q => no (fun h => by have := h.addr; omega)) (fun ha => ?_)
  refine ne_step (fun q => no (fun h => by have := h.orig; omega)) (fun ho => ?_)
  have hf := fuel_ge (n := 4) (by omega)
  have := rq_loop (n := fuel) (k := fuel - 4) g
  rw [show fuel - 4 + 4 = fuel by omega] at this
  rw [rqB_all hk hb (by omega) (by omega) (by omega) (by omega)]
  exact this
theorem rrqright_is {m : Msg} (g : GoodV m) : g_ref14_Right (m, ()) = some ((rqB m, ()), ()) := by
  have no : ¬ RqR m → (some ((false, ()), ()) : Option ((Bool × Unit) × Unit)) = some ((rqB m, ()), ()) := fun h => by rw [b_no (fun q => h (rqB_iff.1 q))]
  have gl := g.list
  rw [g_ref14_Right_eq]
  refine bq_step (fun hk => ?_) (fun q => no (fun h => q h.kind))
  rw [rbare_is (by omega) g.subs.1, Option.bind_some]
  dsimp only
  cases hb : bareB m with
  | false => exact no (fun h => by have := h.bare; rw [hb] at this; cases this)
  | true =>
    rw [ift]
    refine dq_step' (fun h0 => ?_) (fun q => no (fun h => by have := h.flags; omega))
    refine dq_step' (fun h1 => ?_) (fun q => no (fun h => by have := h.flags; omega))
    rw [rf1, Option.bind_some, rf4, Option.bind_some, rf4, Option.bind_some, rf4, Option.bind_some, reright_is g.subs.1, Option.bind_some]
    dsimp only
    cases c1 : fitsB m.hops 1 with
    | false => exact no (fun h => by have := fitsB1.2 h.hops; rw [c1] at this; cases this)
    | true => cases c2 : fitsB m.nonce 4 with
      | false => exact no (fun h => by have := fitsB4.2 h.nonce; rw [c2] at this; cases this)
      | true => cases c3 : fitsB m.seq 4 with
        | false => exact no (fun h => by have := fitsB4.2 h.seq; rw [c3] at this; cases this)
        | true => cases c4 : fitsB m.seq2 4 with
          | false => exact no (fun h => by have := fitsB4.2 h.seq2; rw [c4] at this; cases this)
          | true =>
            rw [ift, ift, ift, ift]
            refine bq_step (fun ha => ?_) (fun q => no (fun h => by have := h.addr; omega))
            refine bq_step (fun ho => ?_) (fun q => no (fun h => by have := h.orig; omega))
            rw [rqB_all hk hb h0 h1 (by omega) (by omega), c1, c2, c3, c4]
            rfl
theorem rpB_all {m : Msg} (hk : m.kind = 4) (hb : bareB m = true) (hs : extB m.subs = true) (h0 : 0 ≤ m.flags) (h1 : m.flags ≤ 3) (h2 : 0 ≤ m.plen) (h3 : m.plen ≤ 31) (c1 : fitsB m.hops 1 = true) (c2 : fitsB m.seq 4 = true) (c3 : fitsB m.interval 4 = true) (ha : m.addr.length = 4) : rpB m = ((m.orig.length : Int) == 4) := by
  apply b_eq
  simp only [rpB_iff, beq_iff_eq]
  constructor
  · rintro (h | h)
    · have := h.orig; omega
    · have := h.kind; omega
  · intro ho
    exact .inl ⟨hk, hb, ⟨h0, h1⟩, ⟨h2, h3⟩, ha, by omega, fitsB4.1 c2, fitsB4.1 c3, fitsB1.1 c1, hs⟩
theorem rpright_is {m : Msg} (g : GoodV m) : g_rrep_Right (m, ()) = some ((rpB m, ()), ()) := by
  have no : ¬ RpR m → ¬ AkR m → (some ((false, ()), ()) : Option ((Bool × Unit) × Unit)) = some ((rpB m, ()), ()) := fun h h2 => by rw [b_no (fun q => (rpB_iff.1 q).elim h h2)]
  rw [g_rrep_Right_eq, bare_is, Option.bind_some]
  dsimp only
  cases hb : bareB m with
  | false => exact no (fun h => by have := h.bare; rw [hb] at this; cases this) (fun h => by have := h.bare; rw [hb] at this; cases this)
  | true =>
    rw [ifnt, eright_is g.subs.1, Option.bind_some]
    dsimp only
    cases hs : extB m.subs with
    | false => exact no (fun h => by have := h.subs; rw [hs] at this; cases this) (fun h => by have := h.subs; rw [hs] at this; cases this)
    | true =>
      rw [ifnt]
      refine bq_step (fun hk => by rw [rpB_iff.2 (.inr ⟨hk, hb, hs⟩)]) (fun hk6 => ?_)
      have no' : ¬ RpR m → (some ((false, ()), ()) : Option ((Bool × Unit) × Unit)) = some ((rpB m, ()), ()) := fun h => no h (fun q => hk6 q.kind)
      refine bq_step (fun hk => ?_) (fun q => no' (fun h => q h.kind))
      refine dq_step' (fun h0 => ?_) (fun q => no' (fun h => by have := h.flags; omega))
      refine dq_step' (fun h1 => ?_) (fun q => no' (fun h => by have := h.flags; omega))
      refine dq_step' (fun h2 => ?_) (fun q => no' (fun h => by have := h.plen; omega))
      refine dq_step' (fun h3 => ?_) (fun q => no' (fun h => by have := h.plen; omega))
      rw [pf1 g.hops, Option.bind_some, pf4 g.seq, Option.bind_some, pf4 g.life, Option.bind_some]
      dsimp only
      cases c1 : fitsB m.hops 1 with
      | false => exact no' (fun h => by have := fitsB1.2 h.hops; rw [c1] at this; cases this)
      | true => cases c2 : fitsB m.seq 4 with
        | false => exact no' (fun h => by have := fitsB4.2 h.seq; rw [c2] at this; cases this)
        | true => cases c3 : fitsB m.interval 4 with
          | false => exact no' (fun h => by have := fitsB4.2 h.life; rw [c3] at this; cases this)
          | true =>
            rw [ift, ift, ift]
            refine bq_step (fun ha => ?_) (fun q => no' (fun h => by have := h.addr; omega))
            rw [rpB_all hk hb hs h0 (by omega) h2 (by omega) c1 c2 c3 (by omega)]
theorem rrpright_is {m : Msg} (g : GoodV m) : g_ref15_Right (m, ()) = some ((rpB m, ()), ()) := by
  have no : ¬ RpR m → ¬ AkR m → (some ((false, ()), ()) : Option ((Bool × Unit) × Unit)) = some ((rpB m, ()), ()) := fun h h2 => by rw [b_no (fun q => (rpB_iff.1 q).elim h h2)]
  have gl := g.list
  rw [g_ref15_Right_eq, rbare_is (by omega) g.subs.1, Option.bind_some]
  dsimp only
  cases hb : bareB m with
  | false => exact no (fun h => by have := h.bare; rw [hb] at this; cases this) (fun h => by have := h.bare; rw [hb] at this; cases this)
  | true =>
    rw [ifnt, reright_is g.subs.1, Option.bind_some]
    dsimp only
    cases hs : extB m.subs with
    | false => exact no (fun h => by have := h.subs; rw [hs] at this; cases this) (fun h => by have := h.subs; rw [hs] at this; cases this)
    | true =>
      rw [ifnt]
      refine bq_step (fun hk => by rw [rpB_iff.2 (.inr ⟨hk, hb, hs⟩)]) (fun hk6 => ?_)
      have no' : ¬ RpR m → (some ((false, ()), ()) : Option ((Bool × Unit) × Unit)) = some ((rpB m, ()), ()) := fun h => no h (fun q => hk6 q.kind)
      refine bq_step (fun hk => ?_) (fun q => no' (fun h => q h.kind))
      refine dq_step' (fun h0 => ?_) (fun q => no' (fun h => by have := h.flags; omega))
      refine dq_step' (fun h1 => ?_) (fun q => no' (fun h => by have := h.flags; omega))
      refine dq_step' (fun h2 => ?_) (fun q => no' (fun h => by have := h.plen; omega))
      refine dq_step' (fun h3 => ?_) (fun q => no' (fun h => by have := h.plen; omega))
      rw [rf1, Option.bind_some, rf4, Option.bind_some, rf4, Option.bind_some]
      dsimp only
      cases c1 : fitsB m.hops 1 with
      | false => exact no' (fun h => by have := fitsB1.2 h.hops; rw [c1] at this; cases this)
      | true => cases c2 : fitsB m.seq 4 with
        | false => exact no' (fun h => by have := fitsB4.2 h.seq; rw [c2] at this; cases this)
        | true => cases c3 : fitsB m.interval 4 with
          | false => exact no' (fun h => by have := fitsB4.2 h.life; rw [c3] at this; cases this)
          | true =>
            rw [ift, ift, ift]
            refine bq_step (fun ha => ?_) (fun q => no' (fun h => by have := h.addr; omega))
            rw [rpB_all hk hb hs h0 h1 h2 h3 c1 c2 c3 (by omega)]
end Go.VP
set_option linter.unusedVariables false
set_option linter.unusedSimpArgs false
set_option maxRecDepth 100000
namespace Go.VP
open Go Go.VI
theorem re_loop {n : Nat} {m : Msg} (g : GoodV m) : ∀ (d k i : Nat), i + d = m.list.length → d < k → L_rerr_Right_0 n k m i = some (((m.list.drop i).all destB && extB m.subs, ()), ()) := by
  have gl := g.list
  intro d
  induction d with
  | zero =>
    intro k i hd hk
    obtain ⟨k, rfl⟩ : ∃ j, k = j + 1 := ⟨k - 1, by omega⟩
    rw [L_rerr_Right_0_eq, ifn (by omega), List.drop_eq_nil_of_le (by omega), eright_is g.subs.1]; rfl
  | succ d ih =>
    intro k i hd hk
    obtain ⟨k, rfl⟩ : ∃ j, k = j + 1 := ⟨k - 1, by omega⟩
    have hi : i < m.list.length := by omega
    have := ih k (i + 1) (by omega) (by omega)
    rw [show ((i + 1 : Nat) : Int) = (i : Int) + 1 by omega] at this
    rw [L_rerr_Right_0_eq, ifd (by omega), if_pos (by omega), Int.toNat_natCast, bind_at hi, pf4 (g.ds _ (List.getElem_mem hi)), Option.bind_some, w64 (by omega) (by omega), this, List.drop_eq_getElem_cons hi, List.all_cons]
    unfold destB
    refine ne_step (fun q => ?_) (fun q => ?_)
    · rw [decide_eq_false (by omega)]; rfl
    · rw [decide_eq_true (by omega)]
      dsimp only
      cases fitsB m.list[i].seq 4 <;> rfl
theorem rre_loop {n : Nat} {m : Msg} (g : GoodV m) : ∀ (d k i : Nat), i + d = m.list.length → d < k → L_ref16_Right_0 n k m i = some (((m.list.drop i).all destB, ()), ()) := by
  have gl := g.list
  intro d
  induction d with
  | zero =>
    intro k i hd hk
    obtain ⟨k, rfl⟩ : ∃ j, k = j + 1 := ⟨k - 1, by omega⟩
    rw [L_ref16_Right_0_eq, ifn (by omega), List.drop_eq_nil_of_le (by omega)]; rfl
  | succ d ih =>
    intro k i hd hk
    obtain ⟨k, rfl⟩ : ∃ j, k = j + 1 := ⟨k - 1, by omega⟩
    have hi : i < m.list.length := by omega
    have := ih k (i + 1) (by omega) (by omega)
    rw [show ((i + 1 : Nat) : Int) = (i : Int) + 1 by omega] at this
    have hp : 0 ≤ (i : Int) := by omega
    rw [L_ref16_Right_0_eq, ifd (by omega)]
    simp only [if_pos hp, Int.toNat_natCast, bind_at hi, rf4, Option.bind_some]
    rw [w64 (by omega) (by omega), this, List.drop_eq_getElem_cons hi, List.all_cons]
    unfold destB
    refine ne_step (fun q => ?_) (fun q => ?_)
    · rw [decide_eq_false (by omega)]; rfl
    · rw [decide_eq_true (by omega)]
      cases fitsB m.list[i].seq 4 <;> rfl
theorem reB_all {m : Msg} (hk : m.kind = 5) (hb : bareB m = true) (hf : m.flags = 0 ∨ m.flags = 1) (hl : 1 ≤ m.list.length ∧ m.list.length ≤ 255) : reB m = (m.list.all destB && extB m.subs) := by
  apply b_eq
  simp only [Bool.and_eq_true, reB_iff]
  exact ⟨fun h => ⟨h.list, h.subs⟩, fun ⟨a, b⟩ => ⟨hk, hb, hf, hl, a, b⟩⟩
theorem errright_is {m : Msg} (g : GoodV m) : g_rerr_Right (m, ()) = some ((reB m, ()), ()) := by
  show h_rerr_Right fuel _ = _
  have no : ¬ ReR m → (some ((false, ()), ()) : Option ((Bool × Unit) × Unit)) = some ((reB m, ()), ()) := fun h => by rw [b_no (fun q => h (reB_iff.1 q))]
  rw [h_rerr_Right_eq]
  refine ne_step (fun q => no (fun h => q h.kind)) (fun hk => ?_)
  rw [bare_is, Option.bind_some]
  refine nb_step (fun q => no (fun h => by have := h.bare; dsimp only at q; rw [q] at this; cases this)) (fun hb => ?_)
  have tail : (m.flags = 0 ∨ m.flags = 1) → (if ((m.list.length : Int) == 0) = true then some ((false, ()), ()) else (if (decide (255 < (m.list.length : Int))) = true then some ((false, ()), ()) else (L_rerr_Right_0 fuel fuel m 0))) = some ((reB m, ()), ()) := by
    intro hf
    refine bq_step (fun q => no (fun h => by have := h.len; omega)) (fun h0 => ?_)
    refine dq_step (fun q => no (fun h => by have := h.len; omega)) (fun h1 => ?_)
    rw [reB_all hk hb hf (by omega)]
    have := re_loop (n := fuel) g m.list.length fuel 0 (by omega) (fuel_ge (by omega))
    rw [List.drop_zero] at this
    exact this
  refine ne_step (fun q => ?_) (fun q => tail (.inl q))
  exact ne_step (fun q2 => no (fun h => by have := h.flags; omega)) (fun q2 => tail (.inr q2))
theorem rerrright_is {m : Msg} (g : GoodV m) : g_ref16_Right (m, ()) = some ((reB m, ()), ()) := by
  show h_ref16_Right fuel _ = _
  have no : ¬ ReR m → (some ((false, ()), ()) : Option ((Bool × Unit) × Unit)) = some ((reB m, ()), ()) := fun h => by rw [b_no (fun q => h (reB_iff.1 q))]
  have gl := g.list
  rw [h_ref16_Right_eq]
  refine ne_step (fun q => no (fun h => q h.kind)) (fun hk => ?_)
  rw [rbare_is (by omega) g.subs.1, Option.bind_some]
  refine nb_step (fun q => no (fun h => by have := h.bare; dsimp only at q; rw [q] at this; cases this)) (fun hb => ?_)
  refine dq_step (fun q => no (fun h => by have := h.flags; omega)) (fun f0 => ?_)
  refine dq_step (fun q => no (fun h => by have := h.flags; omega)) (fun f1 => ?_)
  refine dq_step (fun q => no (fun h => by have := h.len; omega)) (fun h0 => ?_)
  refine dq_step (fun q => no (fun h => by have := h.len; omega)) (fun h1 => ?_)
  rw [reright_is (l := m.subs) g.subs.1, Option.bind_some]
  have := rre_loop (n := fuel) g m.list.length fuel 0 (by omega) (fuel_ge (by omega))
  rw [List.drop_zero, show ((0 : Nat) : Int) = 0 from rfl] at this
  rw [this, reB_all hk hb (by omega) (by omega)]
  dsimp only
  cases extB m.subs <;> simp
def rqBytes (m : Msg) : Bs := [1, u8of (8 * m.flags), 0, u8of m.hops] ++ (be 4 m.nonce ++ (m.addr ++ (be 4 m.seq ++ (m.orig ++ (be 4 m.seq2 ++ encS m.subs)))))
def rpBytes (m : Msg) : Bs := [2, u8of (64 * m.flags), u8of m.plen, u8of m.hops] ++ (m.addr ++ (be 4 m.seq ++ (m.orig ++ (be 4 m.interval ++ encS m.subs))))
def akBytes (m : Msg) : Bs := [4, 0] ++ encS m.subs
def dests : List Dest → Bs
  | [] => []
  | d :: l => (d.addr ++ be 4 d.seq) ++ dests l
def reBytes (m : Msg) : Bs := [3, u8of (128 * m.flags), 0, u8of m.list.length] ++ (dests m.list ++ encS m.subs)
theorem W32.has {n : Int} (h : W32 n) : IntKind.has .i64 n := has64.2 ⟨by have := h.1; omega, by have := h.2; omega⟩
theorem pp4 {n : Int} (h : W32 n) : g_octet_Put (n, 4, ()) = some ((be 4 n, true, ()), ()) := oput_is (k := 4) h.has (by omega) (by omega) (fitsB4.2 h)
theorem word_is {n : Int} (h : W32 n) : g_rreq_word (n, ()) = some ((be 4 n, ()), ()) := by
  rw [g_rreq_word_eq, pp4 h]; rfl
theorem shl_u8 {x : Int} {k : Nat} (hx : 0 ≤ x ∧ x < 65536) (hk : k ≤ 15) : u8of (IntKind.wrap .u8 (ishl .i64 x (k : Int))) = u8of (2 ^ k * x) := by
  rw [ishl_ok hx hk, wu8, u8of_emod']
  exact Int.mul_nonneg (Int.pow_nonneg (by decide)) hx.1
theorem enc_len {m : Msg} (g : GoodV m) : (encS m.subs).length ≤ 302000000 := by
  have h := sumN_rng g.subs
  have := encS_length m.subs
  have := g.subs1
  omega
theorem u8x {x : Int} (h : 0 ≤ x) : u8of (IntKind.wrap .u8 x) = u8of x := by rw [wu8, u8of_emod' h]
noncomputable def rqPut (m : Msg) : Bs × Bool := if rqB m = true then (rqBytes m, true) else ([], false)
theorem rqput_is {m : Msg} (g : GoodV m) : g_rreq_Put (m, ()) = some (((rqPut m).1, (rqPut m).2, ()), ()) := by
  have hl := enc_len g
  rw [g_rreq_Put_eq, rqright_is g, Option.bind_some]
  unfold rqPut
  dsimp only
  cases hr : rqB m with
  | false => rfl
  | true =>
    have h := rqB_iff.1 hr
    have ha := h.addr
    have ho := h.orig
    have b4 : ∀ n, (be 4 n).length = 4 := be_length 4
    rw [ifnt, ift, eput_is g.subs g.subs1, Option.bind_some, putE_ok h.subs, word_is h.nonce, Option.bind_some, word_is h.seq, Option.bind_some, word_is h.seq2, Option.bind_some]
    dsimp only
    rw [show ((3 : Int)) = ((3 : Nat) : Int) from rfl, shl_u8 (by have := h.flags; omega) (by omega), u8x h.hops.1]
    repeat rw [if_pos (maxB_of (by simp only [List.length_append, List.length_cons, List.length_nil, b4, ha, ho]; omega))]
    unfold rqBytes
    simp only [List.append_assoc]
    rfl
noncomputable def rpPut (m : Msg) : Bs × Bool := if rpB m = true then (if m.kind = 6 then akBytes m else rpBytes m, true) else ([], false)
theorem rpput_is {m : Msg} (g : GoodV m) : g_rrep_Put (m, ()) = some (((rpPut m).1, (rpPut m).2, ()), ()) := by
  have hl := enc_len g
  rw [g_rrep_Put_eq, rpright_is g, Option.bind_some]
  unfold rpPut
  dsimp only
  cases hr : rpB m with
  | false => rfl
  | true =>
    have h := rpB_iff.1 hr
    have hs : extB m.subs = true := h.elim (fun h => h.subs) (fun h => h.subs)
    have b4 : ∀ n, (be 4 n).length = 4 := be_length 4
    rw [ifnt, ift, eput_is g.subs g.subs1, Option.bind_some, putE_ok hs]
    dsimp only
    refine bq_step (fun hk => ?_) (fun hk => ?_)
    · rw [if_pos hk, if_pos (maxB_of (by omega))]; rfl
    · have h := h.resolve_right (fun q => hk q.kind)
      have ha := h.addr
      have ho := h.orig
      rw [if_neg hk, pp4 h.seq, Option.bind_some, pp4 h.life, Option.bind_some]
      dsimp only
      rw [show ((6 : Int)) = ((6 : Nat) : Int) from rfl, shl_u8 (by have := h.flags; omega) (by omega), u8x h.hops.1, u8x h.plen.1]
      repeat rw [if_pos (maxB_of (by simp only [List.length_append, List.length_cons, List.length_nil, b4, ha, ho]; omega))]
      unfold rpBytes
      simp only [List.append_assoc]
      rfl
theorem destB_ok {d : Dest} (h : destB d = true) : d.addr.length = 4 ∧ W32 d.seq := by
  unfold destB at h
  simp only [Bool.and_eq_true, decide_eq_true_eq, fitsB4] at h
  exact h
noncomputable def rePut (m : Msg) : Bs × Bool := if reB m = true then (reBytes m, true) else ([], false)
theorem errput_loop {n : Nat} {m : Msg} (g : GoodV m) (h : ReR m) : ∀ (d k i : Nat) (acc : Bs), i + d = m.list.length → d < k → acc.length ≤ 4 + 8 * i → L_rerr_Put_0 n k m acc i = some ((acc ++ (dests (m.list.drop i) ++ encS m.subs), true, ()), ()) := by
  have gl := g.list
  have hl := enc_len g
  have hle := h.len
  intro d
  induction d with
  | zero =>
    intro k i acc hd hk ha
    obtain ⟨k, rfl⟩ : ∃ j, k = j + 1 := ⟨k - 1, by omega⟩
    rw [L_rerr_Put_0_eq, ifn (by omega), List.drop_eq_nil_of_le (by omega), eput_is g.subs g.subs1, Option.bind_some, putE_ok h.subs]
    dsimp only
    rw [if_pos (maxB_of (by omega))]; rfl
  | succ d ih =>
    intro k i acc hd hk ha
    obtain ⟨k, rfl⟩ : ∃ j, k = j + 1 := ⟨k - 1, by omega⟩
    have hi : i < m.list.length := by omega
    obtain ⟨h1, h2⟩ := destB_ok (List.all_eq_true.1 h.list _ (List.getElem_mem hi))
    have b4 : ∀ n, (be 4 n).length = 4 := be_length 4
    have := ih k (i + 1) (acc ++ m.list[i].addr ++ be 4 m.list[i].seq) (by omega) (by omega) (by simp only [List.length_append, h1, b4]; omega)
    rw [show ((i + 1 : Nat) : Int) = (i : Int) + 1 by omega] at this
    rw [L_rerr_Put_0_eq, ifd (by omega), if_pos (by omega), Int.toNat_natCast, bind_at hi, pp4 h2, Option.bind_some]
    dsimp only
    rw [if_pos (roomB_of (by omega)), if_pos (roomB_of (by rw [List.length_append, b4]; omega)), w64 (by omega) (by omega), this, List.drop_eq_getElem_cons hi, dests]
    simp only [List.append_assoc]
theorem reput2_is {m : Msg} (g : GoodV m) : g_rerr_Put (m, ()) = some (((rePut m).1, (rePut m).2, ()), ()) := by
  show h_rerr_Put fuel _ = _
  rw [h_rerr_Put_eq, errright_is g, Option.bind_some]
  unfold rePut
  dsimp only
  cases hr : reB m with
  | false => rfl
  | true =>
    have h := reB_iff.1 hr
    have hle := h.len
    have := errput_loop (n := fuel) g h m.list.length fuel 0 [3, u8of (128 * m.flags), 0, u8of m.list.length] (by omega) (fuel_ge (by omega)) (by simp)
    rw [List.drop_zero] at this
    rw [ifnt, ift, show ((7 : Int)) = ((7 : Nat) : Int) from rfl, shl_u8 (by have := h.flags; omega) (by omega), u8x (by omega)]
    exact this
end Go.VP
set_option linter.unusedVariables false
set_option linter.unusedSimpArgs false
set_option maxRecDepth 100000
namespace Go.VP
open Go Go.VI
noncomputable def avB (m : Msg) : Bool := rqB m || (rpB m || reB m)
noncomputable def avPut (m : Msg) : Bs := if rqB m = true then rqBytes m else if rpB m = true then (if m.kind = 6 then akBytes m else rpBytes m) else if reB m = true then reBytes m else []
noncomputable def encAv (l : List Msg) : Bs × Int × Int := match badP avB l 0 with
  | some i => ([], (i : Int), 1)
  | none => match l with
    | [] => ([], 0, 8)
    | [m] => if 65535 < (avPut m).length then ([], 0, 10) else (avPut m, 0, 0)
    | _ => ([], 1, 8)
theorem avright_is {m : Msg} (g : GoodV m) : g_aodv_Right (m, ()) = some ((avB m, ()), ()) := by
  rw [g_aodv_Right_eq, rqright_is g, Option.bind_some]
  unfold avB
  dsimp only
  cases rqB m with
  | true => rfl
  | false =>
    rw [iff_, rpright_is g, Option.bind_some]
    dsimp only
    cases rpB m with
    | true => rfl
    | false => rw [iff_, errright_is g]; try rfl
theorem avenc_is {l : List Msg} (g : ∀ m ∈ l, GoodV m) (hl : l.length ≤ 1000000) : g_aodv_Encode (l, ()) = some (trip (encAv l), ()) := by
  show h_aodv_Encode fuel (l, ()) = _
  rw [h_aodv_Encode_eq]
  have main : ∀ (d m i : Nat), i + d = l.length → d < m → badP avB l 0 = badP avB (l.drop i) i → L_aodv_Encode_0 fuel m l i = some (trip (encAv l), ()) := by
    intro d
    induction d with
    | zero =>
      intro m i hd hm hb
      obtain ⟨m, rfl⟩ : ∃ k, m = k + 1 := ⟨m - 1, by omega⟩
      rw [List.drop_eq_nil_of_le (by omega)] at hb
      have hn : badP avB l 0 = none := hb
      have hok := badP_none hn
      rw [L_aodv_Encode_0_eq, ifn (by omega)]
      match l, g, hn, hok with
      | [], _, _, _ => rfl
      | x :: y :: r, _, hn, _ =>
        have he : encAv (x :: y :: r) = ([], 1, 8) := by unfold encAv; rw [hn]
        rw [he, if_neg (by simp; omega), ifd (by simp; omega)]
      | [x], g, hn, hok =>
        have g := g x (by simp)
        have hx := hok x (by simp)
        have he : encAv [x] = if 65535 < (avPut x).length then ([], 0, 10) else (avPut x, 0, 0) := by unfold encAv; rw [hn]
        have fin : ∀ s : Bs, s = avPut x → (if (decide (65535 < (s.length : Int))) = true then some ((([] : Bs), 0, 10, ()), ()) else some ((s, 0, 0, ()), ())) = some (trip (encAv [x]), ()) := by
          intro s hs
          rw [he, ← hs]
          refine dq_step (fun h => ?_) (fun h => ?_)
          · rw [if_pos (by omega)]
          · rw [if_neg (by omega)]
        rw [if_neg (by simp), ifn (by simp), show [x][0]? = some x from rfl]
        simp only [Option.bind_some]
        rw [rqput_is g, Option.bind_some]
        dsimp only
        unfold rqPut
        cases h1 : rqB x with
        | true =>
          simp only [if_true]
          rw [ifnt]
          exact fin _ (by unfold avPut; rw [if_pos h1])
        | false =>
          rw [iff_, ifnf, rpput_is g, Option.bind_some]
          dsimp only
          unfold rpPut
          cases h2 : rpB x with
          | true =>
            simp only [if_true]
            rw [ifnt]
            exact fin _ (by unfold avPut; rw [if_neg (show ¬ rqB x = true by rw [h1]; simp), if_pos h2])
          | false =>
            rw [iff_, ifnf, reput2_is g, Option.bind_some]
            have h3 : reB x = true := by unfold avB at hx; rw [h1, h2] at hx; simpa using hx
            refine fin _ ?_
            unfold rePut avPut
            rw [if_pos h3, if_neg (show ¬ rqB x = true by rw [h1]; simp), if_neg (show ¬ rpB x = true by rw [h2]; simp), if_pos h3]
    | succ d ih =>
      intro m i hd hm hb
      obtain ⟨m, rfl⟩ : ∃ k, m = k + 1 := ⟨m - 1, by omega⟩
      have hi : i < l.length := by omega
      rw [List.drop_eq_getElem_cons hi, badP] at hb
      rw [L_aodv_Encode_0_eq, ifd (by omega), if_pos (by omega), Int.toNat_natCast, bind_at hi, avright_is (g _ (List.getElem_mem hi)), Option.bind_some]
      dsimp only
      cases ho : avB l[i] with
      | true =>
        rw [if_pos ho] at hb
        have := ih m (i + 1) (by omega) (by omega) hb
        rw [ifnt, w64 (by omega) (by omega)]
        exact this
      | false =>
        rw [if_neg (by rw [ho]; simp)] at hb
        rw [ifnf]
        unfold encAv; rw [hb]
  exact main l.length fuel 0 (by omega) (fuel_ge (by omega)) rfl
theorem ravright_is {m : Msg} (g : GoodV m) : g_ref17_Right (m, ()) = some ((avB m, ()), ()) := by
  rw [g_ref17_Right_eq, rrqright_is g, Option.bind_some]
  unfold avB
  dsimp only
  cases rqB m with
  | true => rfl
  | false =>
    rw [iff_, rrpright_is g, Option.bind_some]
    dsimp only
    cases rpB m with
    | true => rfl
    | false => rw [iff_, rerrright_is g]; try rfl
end Go.VP
set_option linter.unusedVariables false
set_option linter.unusedSimpArgs false
set_option maxRecDepth 100000
namespace Go.VP
open Go Go.VI
theorem put_rq {m : Msg} (h : RqR m) : avPut m = rqBytes m := by unfold avPut; rw [if_pos (rqB_iff.2 h)]
theorem put_re {m : Msg} (h : ReR m) : avPut m = reBytes m := by
  have := h.kind
  unfold avPut; rw [if_neg (fun q => by have := (rqB_iff.1 q).kind; omega), if_neg (fun q => by rcases rpB_iff.1 q with q | q <;> (have := q.kind; omega)), if_pos (reB_iff.2 h)]
theorem encAv_one {m : Msg} (h : avB m = true) : encAv [m] = if 65535 < (avPut m).length then ([], 0, 10) else (avPut m, 0, 0) := by
  unfold encAv
  rw [badP_ok (fun x hx => by rw [List.mem_singleton.1 hx]; exact h)]
theorem AllE.fewS {l : List Sub} (h : AllE l) (hl : l.length ≤ 1000000) : FewS l := ⟨by omega, fun y hy => by have := (h y hy).2.2; omega⟩
end Go.VP
set_option linter.unusedVariables false
set_option linter.unusedSimpArgs false
set_option maxRecDepth 100000
namespace Go.VP
open Go Go.VI
structure GoodQ (m : Msg) : Prop where
  rip : RM m
  ng : GoodG m
  av : GoodV m
  lean : GoodL m
theorem goodQ {m : Msg} (g : Good_api_Msg m) (h : Few m) : GoodQ m := by
  have hl := h.lite
  have g0 := g
  obtain ⟨g1, g2, g3, g4, g5, g6, g7, g8, g9, g10, g11, g12, g13, g14, g15, g16, g17, g18, g19, g20, g21, g22, g23, _⟩ := g
  have h1 := hl.list
  have h2 := hl.subs
  exact ⟨goodRM g0 h, ⟨g9, g8, g2, by omega, by omega⟩, ⟨g18, g13, g14, g17, g15, by omega, fun d hd => (g22.2 d hd).2.1, hl.fewS, by omega⟩, goodL g0 hl⟩
open Classical in
noncomputable def rightP (p : Int) (m : Msg) : Bool := if p = 1 then rightR m else if p = 2 then ngB m else if p = 3 then avB m else if p = 4 then leanB m else false
end Go.VP
set_option linter.unusedVariables false
set_option linter.unusedSimpArgs false
set_option maxRecDepth 100000
namespace Go.VP
open Go Go.VI
noncomputable def encP (p : Int) (l : List Msg) : Bs × Int × Int := if p = 1 then encR l else if p = 2 then encNg l else if p = 3 then encAv l else if p = 4 then encO l else ([], 0, 1)
def GoodP (p : Int) (m : Msg) : Prop := (p = 1 → RM m) ∧ (p = 2 → GoodG m) ∧ (p = 3 → GoodV m) ∧ (p = 4 → GoodL m)
theorem GoodQ.p {m : Msg} (g : GoodQ m) (p : Int) : GoodP p m := ⟨fun _ => g.rip, fun _ => g.ng, fun _ => g.av, fun _ => g.lean⟩
theorem sright_p {p : Int} {m : Msg} (g : GoodP p m) : g_suite_Right (p, m, ()) = some ((rightP p m, ()), ()) := by
  rw [g_suite_Right_eq]
  unfold rightP
  refine bq_step (fun h => by rw [if_pos h, ripRight_is (g.1 h)]; rfl) (fun h1 => ?_)
  rw [if_neg h1]
  refine bq_step (fun h => by rw [if_pos h, ngright_is (g.2.1 h)]; rfl) (fun h2 => ?_)
  rw [if_neg h2]
  refine bq_step (fun h => by rw [if_pos h, avright_is (g.2.2.1 h)]; rfl) (fun h3 => ?_)
  rw [if_neg h3]
  refine bq_step (fun h => by rw [if_pos h, lright_is (g.2.2.2 h)]; rfl) (fun h4 => ?_)
  rw [if_neg h4]
theorem rsright_p {p : Int} {m : Msg} (g : GoodP p m) : g_ref26_Right (p, m, ()) = some ((rightP p m, ()), ()) := by
  rw [g_ref26_Right_eq]
  unfold rightP
  refine bq_step (fun h => by rw [if_pos h, rripRight_is (g.1 h)]; rfl) (fun h1 => ?_)
  rw [if_neg h1]
  refine bq_step (fun h => by rw [if_pos h, rngright_is (g.2.1 h)]; rfl) (fun h2 => ?_)
  rw [if_neg h2]
  refine bq_step (fun h => by rw [if_pos h, ravright_is (g.2.2.1 h)]; rfl) (fun h3 => ?_)
  rw [if_neg h3]
  refine bq_step (fun h => by rw [if_pos h, rlright_is (g.2.2.2 h)]; rfl) (fun h4 => ?_)
  rw [if_neg h4]
theorem senc_is {p : Int} {l : List Msg} (g : ∀ m ∈ l, GoodP p m) (hl : l.length ≤ 100000) (h1 : p = 1 → l.length ≤ 1000) : g_suite_Encode (p, l, ()) = some (trip (encP p l), ()) := by
  rw [g_suite_Encode_eq]
  unfold encP
  refine bq_step (fun h => by rw [if_pos h, enc_is (fun m hm => (g m hm).1 h) (h1 h)]; rfl) (fun h1 => ?_)
  rw [if_neg h1]
  refine bq_step (fun h => by rw [if_pos h, ngenc_is (fun m hm => (g m hm).2.1 h) (by omega)]; rfl) (fun h2 => ?_)
  rw [if_neg h2]
  refine bq_step (fun h => by rw [if_pos h, avenc_is (fun m hm => (g m hm).2.2.1 h) (by omega)]; rfl) (fun h3 => ?_)
  rw [if_neg h3]
  refine bq_step (fun h => by rw [if_pos h, oenc_is hl (fun m hm => (g m hm).2.2.2 h)]; rfl) (fun h4 => ?_)
  rw [if_neg h4]
end Go.VP
set_option linter.unusedVariables false
set_option linter.unusedSimpArgs false
set_option maxRecDepth 100000
namespace Go.VP
open Go Go.VI
noncomputable def fitsP (p most : Int) (l : List Msg) : Bool := decide ((encP p l).2.2 = 0 ∧ ((encP p l).1.length : Int) ≤ most)
theorem dat_is {p most : Int} {l : List Msg} (g : ∀ m ∈ l, GoodP p m) (hl : l.length ≤ 1000) : g_pack_datagram (p, l, most, ()) = some (((encP p l).1, fitsP p most l, ()), ()) := by
  rw [g_pack_datagram_eq, senc_is g (by omega) (fun _ => hl), Option.bind_some]
  unfold fitsP
  refine bq_step (fun q => ?_) (fun q => ?_)
  · by_cases h : ((encP p l).1.length : Int) ≤ most
    · rw [decide_eq_true (show (encP p l).2.2 = 0 ∧ _ from ⟨q, h⟩)]; dsimp only [trip]; rw [decide_eq_true h]
    · rw [decide_eq_false (show ¬ ((encP p l).2.2 = 0 ∧ _) from fun c => h c.2)]; dsimp only [trip]; rw [decide_eq_false h]
  · rw [decide_eq_false (show ¬ ((encP p l).2.2 = 0 ∧ _) from fun c => q c.1)]
theorem pfits_is {p most : Int} {l : List Msg} (g : ∀ m ∈ l, GoodP p m) (hl : l.length ≤ 1000) : g_pack_Fits (p, l, most, ()) = some ((fitsP p most l, ()), ()) := by
  rw [g_pack_Fits_eq, dat_is g hl]; rfl
noncomputable def cnt (p most : Int) (l : List Msg) : Nat → Nat → Nat
  | 0, n => n
  | k + 1, n => if fitsP p most (l.take (n + 1)) = true then cnt p most l k (n + 1) else n
noncomputable def cntP (p most : Int) (l : List Msg) : Nat := cnt p most l l.length 0
theorem cnt_rng {p most : Int} {l : List Msg} : ∀ (k n : Nat), n ≤ cnt p most l k n ∧ cnt p most l k n ≤ n + k
  | 0, n => ⟨Nat.le_refl _, Nat.le_refl _⟩
  | k + 1, n => by
    unfold cnt
    split
    · have := cnt_rng (p := p) (most := most) (l := l) k (n + 1); omega
    · omega
noncomputable def chunks (p most : Int) : Nat → List Msg → List (List Msg)
  | 0, _ => []
  | k + 1, l => if l = [] then [] else l.take (cntP p most l) :: chunks p most k (l.drop (cntP p most l))
noncomputable def packD (p most : Int) (l : List Msg) : List Bs := (chunks p most l.length l).map fun c => (encP p c).1
noncomputable def lastD (p : Int) (l : List Msg) (n : Nat) : Bs := if n = 0 then [] else (encP p (l.take n)).1
theorem strBo : bo_string ≤ 100000 := Nat.le_of_ble_eq_true (by kernel_rfl)
theorem pack1_loop {n m0 : Nat} {p most : Int} {l : List Msg} {acc : List Bs} (hl : l.length ≤ 1000) (ha : acc.length ≤ 1000) (g : ∀ m ∈ l, GoodP p m) : ∀ (d k i : Nat), i + d = l.length → d < k →
    L_pack_Pack_1 n m0 k p l most acc (lastD p l i) i = L_pack_Pack_0 n m0 p most (l.drop (cnt p most l d i)) (acc ++ [lastD p l (cnt p most l d i)]) := by
  have fin : ∀ (i : Nat), i ≤ l.length → (if roomB ((acc.length + [lastD p l i].length) * bo_string) = true then (if 0 ≤ (i : Int) ∧ (i : Int) ≤ (l.length : Int) then (L_pack_Pack_0 n m0 p most (l.drop (i : Int).toNat) (acc ++ [lastD p l i])) else none) else none) = L_pack_Pack_0 n m0 p most (l.drop i) (acc ++ [lastD p l i]) := fun i hi => by
    rw [if_pos (roomB_of (Nat.le_trans (Nat.mul_le_mul (show acc.length + [lastD p l i].length ≤ 1001 by simp; omega) strBo) (by decide))), if_pos (by omega), Int.toNat_natCast]
  intro d
  induction d with
  | zero =>
    intro k i h hk
    obtain ⟨k, rfl⟩ : ∃ j, k = j + 1 := ⟨k - 1, by omega⟩
    rw [L_pack_Pack_1_eq, ifn (by omega), cnt]
    exact fin i (by omega)
  | succ d ih =>
    intro k i h hk
    obtain ⟨k, rfl⟩ : ∃ j, k = j + 1 := ⟨k - 1, by omega⟩
    have hg : ∀ m ∈ l.take (i + 1), GoodP p m := fun m hm => g m (List.mem_of_mem_take hm)
    rw [L_pack_Pack_1_eq, ifd (by omega), w64 (x := (i : Int) + 1) (by omega) (by omega), if_pos (by omega), show ((i : Int) + 1).toNat = i + 1 by omega, dat_is hg (by rw [List.length_take]; omega), Option.bind_some, cnt]
    dsimp only
    cases hf : fitsP p most (l.take (i + 1)) with
    | false =>
      rw [ifnf, iff_]
      exact fin i (by omega)
    | true =>
      rw [ifnt, ift]
      have := ih k (i + 1) (by omega) (by omega)
      rw [show ((i + 1 : Nat) : Int) = (i : Int) + 1 by omega, show lastD p l (i + 1) = (encP p (l.take (i + 1))).1 by unfold lastD; rw [if_neg (by omega)]] at this
      exact this
theorem cntP_pos {p most : Int} {m : Msg} {r : List Msg} (h : fitsP p most [m] = true) : 1 ≤ cntP p most (m :: r) := by
  unfold cntP
  rw [List.length_cons, cnt]
  rw [if_pos (by simpa using h)]
  exact (cnt_rng _ _).1
theorem cntP_le {p most : Int} {l : List Msg} : cntP p most l ≤ l.length := by
  have := (cnt_rng (p := p) (most := most) (l := l) l.length 0).2
  unfold cntP; omega
theorem pack0_loop {n : Nat} {p most : Int} (hn : 2000 ≤ n) : ∀ (d k : Nat) (l : List Msg) (acc : List Bs), l.length ≤ d → d < k → l.length + acc.length ≤ 1000 → (∀ m ∈ l, GoodP p m ∧ fitsP p most [m] = true) →
    L_pack_Pack_0 n k p most l acc = some ((acc ++ (chunks p most d l).map (fun c => (encP p c).1), 0, 0, ()), ()) := by
  intro d
  induction d with
  | zero =>
    intro k l acc hd hk hl g
    obtain ⟨k, rfl⟩ : ∃ j, k = j + 1 := ⟨k - 1, by omega⟩
    rw [L_pack_Pack_0_eq, ifn (by omega)]
    simp [chunks]
  | succ d ih =>
    intro k l acc hd hk hl g
    obtain ⟨k, rfl⟩ : ∃ j, k = j + 1 := ⟨k - 1, by omega⟩
    rw [L_pack_Pack_0_eq]
    cases l with
    | nil => rw [ifn (by simp)]; simp [chunks]
    | cons m r =>
      have h1 := cntP_pos (r := r) (g m (by simp)).2
      have h2 := cntP_le (p := p) (most := most) (l := m :: r)
      have := pack1_loop (n := n) (m0 := k) (most := most) (acc := acc) (l := m :: r) (by simp at hl ⊢; omega) (by omega) (fun x hx => (g x hx).1) (m :: r).length n 0 (by omega) (by simp at hl ⊢; omega)
      rw [show lastD p (m :: r) 0 = [] from rfl, show ((0 : Nat) : Int) = 0 from rfl, show cnt p most (m :: r) (m :: r).length 0 = cntP p most (m :: r) from rfl] at this
      rw [ifd (by simp only [List.length_cons]; omega), this, ih k _ _ (by rw [List.length_drop]; simp at hd h2 ⊢; omega) (by omega) (by rw [List.length_drop, List.length_append]; simp at hl h2 ⊢; omega) (fun x hx => g x (List.mem_of_mem_drop hx))]
      have hc : chunks p most (d + 1) (m :: r) = (m :: r).take (cntP p most (m :: r)) :: chunks p most d ((m :: r).drop (cntP p most (m :: r))) := by rw [chunks, if_neg (by simp)]
      rw [hc, List.map_cons, List.append_assoc]
      have hld : lastD p (m :: r) (cntP p most (m :: r)) = (encP p ((m :: r).take (cntP p most (m :: r)))).1 := by unfold lastD; rw [if_neg (by omega)]
      rw [hld]; rfl
theorem one_at {l : List Msg} {i : Nat} (h : i < l.length) : (l.take (i + 1)).drop i = [l[i]] := by
  rw [List.take_succ_eq_append_getElem h, List.drop_left' (by rw [List.length_take]; omega)]
noncomputable def checkP (p most : Int) (l : List Msg) : Int × Int :=
  if p < 1 ∨ 4 < p then (0, 1) else match badP (rightP p) l 0 with
    | some i => ((i : Int), 1)
    | none => match badP (fun m => fitsP p most [m]) l 0 with
      | some i => ((i : Int), 11)
      | none => (0, 0)
theorem check1_loop {n : Nat} {p most : Int} {l : List Msg} (hl : l.length ≤ 1000) (g : ∀ m ∈ l, GoodP p m) : ∀ (d k i : Nat), i + d = l.length → d < k →
    L_pack_check_1 n k p l most i = some ((match badP (fun m => fitsP p most [m]) (l.drop i) i with | some j => (((j : Nat) : Int), 11, ()) | none => (0, 0, ())), ()) := by
  intro d
  induction d with
  | zero =>
    intro k i h hk
    obtain ⟨k, rfl⟩ : ∃ j, k = j + 1 := ⟨k - 1, by omega⟩
    rw [L_pack_check_1_eq, ifn (by omega), List.drop_eq_nil_of_le (by omega)]; rfl
  | succ d ih =>
    intro k i h hk
    obtain ⟨k, rfl⟩ : ∃ j, k = j + 1 := ⟨k - 1, by omega⟩
    have hi : i < l.length := by omega
    have := ih k (i + 1) (by omega) (by omega)
    rw [show ((i + 1 : Nat) : Int) = (i : Int) + 1 by omega] at this
    rw [L_pack_check_1_eq, ifd (by omega), w64 (x := (i : Int) + 1) (by omega) (by omega), if_pos (by omega), show ((i : Int) + 1).toNat = i + 1 by omega, Int.toNat_natCast, one_at hi, pfits_is (fun m hm => by rw [List.mem_singleton.1 hm]; exact g _ (List.getElem_mem hi)) (by simp), Option.bind_some, List.drop_eq_getElem_cons hi, badP]
    dsimp only
    cases hf : fitsP p most [l[i]] with
    | false => rw [ifnf, iff_]
    | true => rw [ifnt, ift]; exact this
theorem check_is {p most : Int} {l : List Msg} (hl : l.length ≤ 1000) (g : ∀ m ∈ l, GoodP p m) : g_pack_check (p, l, most, ()) = some (((checkP p most l).1, (checkP p most l).2, ()), ()) := by
  show h_pack_check fuel _ = _
  rw [h_pack_check_eq]
  unfold checkP
  refine dq_step (fun h => by rw [if_pos (Or.inl h)]) (fun h1 => ?_)
  refine dq_step (fun h => by rw [if_pos (Or.inr h)]) (fun h2 => ?_)
  rw [if_neg (show ¬ (p < 1 ∨ 4 < p) by omega)]
  have main : ∀ (d k i : Nat), i + d = l.length → d < k → L_pack_check_0 fuel k p l most i = some ((match badP (rightP p) (l.drop i) i with | some j => (((j : Nat) : Int), 1, ()) | none => (match badP (fun m => fitsP p most [m]) l 0 with | some j => (((j : Nat) : Int), 11, ()) | none => (0, 0, ()))), ()) := by
    intro d
    induction d with
    | zero =>
      intro k i h hk
      obtain ⟨k, rfl⟩ : ∃ j, k = j + 1 := ⟨k - 1, by omega⟩
      have := check1_loop (n := fuel) (most := most) hl g l.length fuel 0 (by omega) (fuel_ge (by omega))
      rw [List.drop_zero, show ((0 : Nat) : Int) = 0 from rfl] at this
      rw [L_pack_check_0_eq, ifn (by omega), List.drop_eq_nil_of_le (by omega), this]; rfl
    | succ d ih =>
      intro k i h hk
      obtain ⟨k, rfl⟩ : ∃ j, k = j + 1 := ⟨k - 1, by omega⟩
      have hi : i < l.length := by omega
      have := ih k (i + 1) (by omega) (by omega)
      rw [show ((i + 1 : Nat) : Int) = (i : Int) + 1 by omega] at this
      rw [L_pack_check_0_eq, ifd (by omega), if_pos (by omega), Int.toNat_natCast, bind_at hi, sright_p (g _ (List.getElem_mem hi)), Option.bind_some, w64 (by omega) (by omega), List.drop_eq_getElem_cons hi, badP]
      dsimp only
      cases hf : rightP p l[i] with
      | false => rw [ifnf, iff_]
      | true => rw [ifnt, ift]; exact this
  have := main l.length fuel 0 (by omega) (fuel_ge (by omega))
  rw [List.drop_zero, show ((0 : Nat) : Int) = 0 from rfl] at this
  rw [this]
  cases badP (rightP p) l 0 with
  | some i => rfl
  | none => cases badP (fun m => fitsP p most [m]) l 0 <;> rfl
noncomputable def packP (p most : Int) (l : List Msg) : List Bs × Int × Int := if (checkP p most l).2 ≠ 0 then ([], checkP p most l) else (packD p most l, 0, 0)
theorem checkP_ok {p most : Int} {l : List Msg} (h : (checkP p most l).2 = 0) : 1 ≤ p ∧ p ≤ 4 ∧ (∀ m ∈ l, rightP p m = true ∧ fitsP p most [m] = true) := by
  unfold checkP at h
  split at h
  · cases h
  · rename_i hp
    split at h
    · cases h
    · rename_i h1
      split at h
      · cases h
      · rename_i h2
        exact ⟨by omega, by omega, fun m hm => ⟨badP_none h1 m hm, badP_none h2 m hm⟩⟩
theorem pack_is {p most : Int} {l : List Msg} (hl : l.length ≤ 1000) (g : ∀ m ∈ l, GoodP p m) : g_pack_Pack (p, l, most, ()) = some (trip (packP p most l), ()) := by
  show h_pack_Pack fuel _ = _
  rw [h_pack_Pack_eq, check_is hl g, Option.bind_some]
  unfold packP
  refine ne_step (fun q => by rw [if_pos q]) (fun q => ?_)
  rw [if_neg (show ¬ (checkP p most l).2 ≠ 0 from fun c => c q)]
  have hc := (checkP_ok (show (checkP p most l).2 = 0 from q)).2.2
  rw [pack0_loop (n := fuel) (Nat.le_of_lt (fuel_ge (by omega))) l.length fuel l [] (Nat.le_refl _) (fuel_ge (by omega)) (by simp; omega) (fun m hm => ⟨g m hm, (hc m hm).2⟩)]
  rfl
end Go.VP
set_option linter.unusedVariables false
set_option linter.unusedSimpArgs false
set_option maxRecDepth 100000
namespace Go.VP
open Go Go.VI
theorem kind4 {x : Int} (h : 0 ≤ x ∧ x ≤ 255) : 1 ≤ IntKind.wrap .i64 (1 + IntKind.wrap .i64 (x.tmod 4)) ∧ IntKind.wrap .i64 (1 + IntKind.wrap .i64 (x.tmod 4)) ≤ 4 := by
  rw [Int.tmod_eq_emod_of_nonneg h.1, w64 (x := x % 4) (by omega) (by omega), w64 (by omega) (by omega)]; omega
end Go.VP
set_option linter.unusedVariables false
set_option linter.unusedSimpArgs false
set_option maxRecDepth 100000
namespace Go.VP
open Go Go.VI
theorem encS_le : ∀ {l : List Sub} {k : Nat}, (∀ y ∈ l, y.data.length ≤ k) → (encS l).length ≤ (k + 2) * l.length
  | [], k, _ => by simp [encS]
  | y :: l, k, h => by
    have h1 := h y (List.mem_cons_self ..)
    have h2 := encS_le (l := l) (k := k) (fun x hx => h x (List.mem_cons_of_mem _ hx))
    have e1 := encS_length (y :: l)
    have e2 := encS_length l
    rw [List.length_cons, Nat.mul_add, Nat.mul_one]
    simp only [sumN] at e1
    omega
theorem dests_le : ∀ {l : List Dest}, l.all destB = true → (dests l).length = 8 * l.length
  | [], _ => rfl
  | d :: l, h => by
    rw [List.all_cons, Bool.and_eq_true] at h
    have h1 : d.addr.length = 4 := by
      have := h.1
      unfold destB at this
      rw [Bool.and_eq_true] at this
      exact of_decide_eq_true this.1
    have h2 := dests_le h.2
    rw [dests, List.length_append, List.length_append, h1, be_length, h2, List.length_cons]; omega
theorem avPut_le {m : Msg} (h : avB m = true) (hf : Few m) : (avPut m).length ≤ 30000 := by
  have hs := encS_le (l := m.subs) (k := 300) hf.ss
  have h60 := hf.subs
  have hs : (encS m.subs).length ≤ 18200 := Nat.le_trans hs (Nat.le_trans (Nat.mul_le_mul_left 302 h60) (by decide))
  unfold avB at h
  by_cases h1 : rqB m = true
  · have q := rqB_iff.1 h1
    have a1 := q.addr
    have a2 := q.orig
    rw [put_rq q]; unfold rqBytes
    simp only [List.length_append, be_length, List.length_cons, List.length_nil]; omega
  · by_cases h2 : rpB m = true
    · unfold avPut
      rw [if_neg h1, if_pos h2]
      split
      · unfold akBytes; simp only [List.length_append, List.length_cons, List.length_nil]; omega
      · have q : m.addr.length ≤ 200 ∧ m.orig.length ≤ 200 := by have := hf.ao; omega
        unfold rpBytes
        simp only [List.length_append, be_length, List.length_cons, List.length_nil]; omega
    · rw [b_no h1, b_no h2, Bool.false_or, Bool.false_or] at h
      have q := reB_iff.1 h
      have a1 := q.len
      have a2 := dests_le q.list
      rw [put_re q]; unfold reBytes
      simp only [List.length_append, List.length_cons, List.length_nil]; omega
theorem p_one {p : Int} {m : Msg} (h : rightP p m = true) (hf : Few m) : (encP p [m]).2.2 = 0 := by
  unfold rightP at h
  unfold encP
  by_cases h1 : p = 1
  · simp only [if_pos h1] at h ⊢
    have ho := rightR_true.1 h
    unfold encR
    have hb : badR [m] 0 = none := by unfold badR; rw [if_pos ho]; rfl
    rw [hb]
    dsimp only
    rw [enc_good [m] 0 _ (by unfold mostR; simp; split <;> omega) (fun j hj h0 => by simp at hj; omega)]
  simp only [if_neg h1] at h ⊢
  by_cases h2 : p = 2
  · simp only [if_pos h2] at h ⊢
    have ho := ngR_iff.1 h
    rw [ng_is (r := []) (fun x hx => by rw [List.mem_singleton.1 hx]; exact ho), encN_fine (fun x hx => by rw [List.mem_singleton.1 hx]) ?_]
    have := lineN_len (nx := z16) ho
    rw [linesN, linesN, List.append_nil, List.length_append, this]
    simp only [List.length_cons, List.length_nil]
    split <;> omega
  simp only [if_neg h2] at h ⊢
  by_cases h3 : p = 3
  · simp only [if_pos h3] at h ⊢
    have := avPut_le h hf
    rw [encAv_one h, if_neg (by omega)]
  simp only [if_neg h3] at h ⊢
  by_cases h4 : p = 4
  · simp only [if_pos h4] at h ⊢
    have ho := leanR_iff.1 h
    have he : (putL c0 m).2.2 = 0 := by
      unfold putL
      rw [if_neg (by rw [h]; simp)]
      split
      · rfl
      · rw [if_neg (fun q => q.2.2 (by unfold nextC; split <;> rfl))]
    have hs := putL_short ho he
    have hp := plainL_small m
    rw [encO_of (l := [m]) (s := (putL c0 m).1) (d := (putL c0 m).2.1) (fun x hx => by rw [List.mem_singleton.1 hx]; exact h) (by rw [outS, if_neg (by rw [he]; simp), outS]; simp) (by omega)]
  · simp only [if_neg h4] at h; cases h
end Go.VP
set_option linter.unusedVariables false
set_option linter.unusedSimpArgs false
set_option maxRecDepth 100000
namespace Go.VP
open Go Go.VI
theorem awakeT : g_top_awake () = some ((true, ()), ()) := by kernel_rfl
theorem awbT {α : Type} (f : (Bool × Unit) × Unit → Option α) : (g_top_awake ()).bind f = f ((true, ()), ()) := by rw [awakeT]; rfl
end Go.VP
