/- RIP: the datagram of routes. -/
import Derived.Test.YtnjhhopdiopbfaaFQ2
import Derived.Test.YtnjhhopdiopbfaaFQ3
import Derived.Test.YtnjhhopdiopbfaaFQ4
import Derived.Test.YtnjhhopdiopbfaaPBase
import Derived.Test.YtnjhhopdiopbfaaPCur
import Derived.Test.YtnjhhopdiopbfaaPOct
import Derived.Test.YtnjhhopdiopbfaaPTlv
import Derived.Test.YtnjhhopdiopbfaaPSub
import Derived.Test.YtnjhhopdiopbfaaPMsg
import Derived.Test.YtnjhhopdiopbfaaPBits
import Derived.Test.YtnjhhopdiopbfaaPRipA
import Derived.Test.YtnjhhopdiopbfaaPRipB
import Derived.Test.YtnjhhopdiopbfaaPRipC
import Derived.Test.YtnjhhopdiopbfaaPRipD
set_option linter.unusedVariables false
set_option linter.unusedSimpArgs false
set_option maxRecDepth 100000
namespace Go.VP
open Go Go.VI
theorem ishr8 {x : Int} (h : 0 ≤ x) : ishr .i64 x 8 = x / 256 := by
  unfold ishr
  rw [show (2 : Int) ^ (min (8 : Int).toNat IntKind.i64.bits) = 256 by decide]
  exact Int.fdiv_eq_ediv_of_nonneg _ (by decide)
theorem pput_loop {c : Nat} : ∀ (i m : Nat) (x : Int) (acc : Bs), i ≤ acc.length → acc.length ≤ 100 → i < m → 0 ≤ x → L_octet_Put_0 c m x ((i : Int) - 1) acc = some ((be i x ++ acc.drop i, true, ()), ())
  | 0, m, x, acc, h1, h2, hm, hx => by
    obtain ⟨m, rfl⟩ : ∃ k, m = k + 1 := ⟨m - 1, by omega⟩
    rw [L_octet_Put_0_eq, ifn (by omega)]; simp [be]
  | i + 1, m, x, acc, h1, h2, hm, hx => by
    obtain ⟨m, rfl⟩ : ∃ k, m = k + 1 := ⟨m - 1, by omega⟩
    have e : (((i + 1 : Nat) : Int) - 1) = (i : Int) := by omega
    rw [L_octet_Put_0_eq, e, ifd (by omega), if_pos (by omega), Int.toNat_natCast, if_pos (by omega), w64 (by omega) (by omega), ishr8 hx, pput_loop i m (x / 256) _ (by simp; omega) (by simp; omega) (by omega) (by omega), wu8, be]
    have : (acc.set i (u8of (x % 256))).drop i = u8of (x % 256) :: acc.drop (i + 1) := by
      rw [List.drop_eq_getElem_cons (by simp; omega), List.getElem_set_self, List.drop_set_of_lt (by omega)]
    rw [this]; simp
theorem oput_is {n : Int} {k : Nat} (hn : IntKind.has .i64 n) (h1 : 1 ≤ k) (h7 : k ≤ 7) (hf : fitsB n k = true) : g_octet_Put (n, (k : Int), ()) = some ((be k n, true, ()), ()) := by
  show h_octet_Put fuel (n, (k : Int), ()) = _
  have h0 : 0 ≤ n := by unfold fitsB at hf; rw [decide_eq_true_eq] at hf; exact hf.1
  rw [h_octet_Put_eq, fits_is hn h1 h7, Option.bind_some, hf]
  dsimp only
  have hr : (k : Int) ≤ roomI := by unfold roomI; omega
  rw [ifnt, if_pos ⟨by omega, hr⟩, w64 (by omega) (by omega), Int.toNat_natCast, pput_loop k fuel n _ (by simp) (by simp; omega) (fuel_ge (by omega)) h0]
  simp
/-- An entry's bytes. -/
def entB (e : Ent) : Bs := be 2 e.family ++ be 2 e.tag ++ e.addr ++ e.mask ++ e.next ++ be 4 e.metric
theorem fit2 {n : Int} (h : 0 ≤ n ∧ n ≤ 65535) : fitsB n 2 = true := by unfold fitsB; rw [decide_eq_true_eq]; omega
theorem fit4 {n : Int} (h : 0 ≤ n ∧ n ≤ 4294967295) : fitsB n 4 = true := by unfold fitsB; rw [decide_eq_true_eq]; omega
theorem entPut_is {e : Ent} (h : EntOk e) : g_entry_Put (e, ()) = some ((entB e, true, ()), ()) := by
  have h1 := h.addr; have h2 := h.mask; have h3 := h.next; have h4 := h.fam; have h5 := h.tag; have h6 := h.metric
  have hf : IntKind.has .i64 e.family := has64.2 (by omega)
  have ht : IntKind.has .i64 e.tag := has64.2 (by omega)
  have hm : IntKind.has .i64 e.metric := has64.2 (by omega)
  have a1 := fits_is (k := 4) hm (by omega) (by omega)
  have a2 := fits_is (k := 2) hf (by omega) (by omega)
  have a3 := fits_is (k := 2) ht (by omega) (by omega)
  have b1 := oput_is (k := 2) hf (by omega) (by omega) (fit2 h4)
  have b2 := oput_is (k := 2) ht (by omega) (by omega) (fit2 h5)
  have b3 := oput_is (k := 4) hm (by omega) (by omega) (fit4 h6)
  rw [fit4 h6] at a1; rw [fit2 h4] at a2; rw [fit2 h5] at a3
  rw [show ((2 : Nat) : Int) = 2 from rfl] at *
  rw [show ((4 : Nat) : Int) = 4 from rfl] at *
  rw [g_entry_Put_eq, if_neg (by simp; omega), if_neg (by simp; omega), if_neg (by simp; omega), a1, Option.bind_some]
  dsimp only
  rw [ifnt, a2, Option.bind_some]
  dsimp only
  rw [ifnt, a3, Option.bind_some]
  dsimp only
  rw [ifnt, b1, Option.bind_some, b2, Option.bind_some, b3, Option.bind_some]
  dsimp only
  have l2 := be_length 2
  have l4 := be_length 4
  rw [if_pos (maxB_of (by simp [l2])), if_pos (maxB_of (by simp [l2, h1])), if_pos (maxB_of (by simp [l2, h1, h2])), if_pos (maxB_of (by simp [l2, h1, h2, h3])), if_pos (maxB_of (by simp [l2, l4, h1, h2, h3]))]
  rfl
theorem oput1 {n : Int} {k : Nat} (hf : fitsB n k = true) : oput n k = (be k n, true) := by unfold oput; rw [if_pos hf]
theorem rentPut_is {e : Ent} (h : EntOk e) : g_ref08_Put (e, ()) = some ((entB e, true, ()), ()) := by
  have h1 := h.addr; have h2 := h.mask; have h3 := h.next; have h4 := h.fam; have h5 := h.tag; have h6 := h.metric
  have hf : IntKind.has .i64 e.family := has64.2 (by omega)
  have ht : IntKind.has .i64 e.tag := has64.2 (by omega)
  have hm : IntKind.has .i64 e.metric := has64.2 (by omega)
  have b1 := rput_is (k := 2) hf (by omega) (by omega)
  have b2 := rput_is (k := 2) ht (by omega) (by omega)
  have b3 := rput_is (k := 4) hm (by omega) (by omega)
  rw [oput1 (fit2 h4)] at b1; rw [oput1 (fit2 h5)] at b2; rw [oput1 (fit4 h6)] at b3
  rw [show ((2 : Nat) : Int) = 2 from rfl] at *
  rw [show ((4 : Nat) : Int) = 4 from rfl] at *
  rw [g_ref08_Put_eq, b1, Option.bind_some, b2, Option.bind_some, b3, Option.bind_some]
  dsimp only
  rw [ifnt, ifnt, ifnt, if_neg (by simp; omega), if_neg (by simp; omega), if_neg (by simp; omega)]
  have l2 := be_length 2
  have l4 := be_length 4
  rw [if_pos (maxB_of (by simp [l2])), if_pos (maxB_of (by simp [l2, h1])), if_pos (maxB_of (by simp [l2, h1, h2])), if_pos (maxB_of (by simp [l2, h1, h2, h3])), if_pos (maxB_of (by simp [l2, l4, h1, h2, h3]))]
  rfl
/-- The entry of a route. -/
def entM (m : Msg) : Ent := ⟨m.family, m.tag, m.prefix_, (if m.family = 2 ∧ m.ver = 2 then maskF m.plen else z4), m.next, m.metric⟩
def lineF (m : Msg) : Bs := entB (entM m)
theorem entM_ok {m : Msg} (h : okR m) : EntOk (entM m) := by
  obtain ⟨_, _, _, _, hp, hn, _, h⟩ := h
  refine ⟨?_, ?_, hp, ?_, hn, ?_⟩
  · show 0 ≤ m.family ∧ m.family ≤ 65535; omega
  · show 0 ≤ m.tag ∧ m.tag ≤ 65535; omega
  · unfold entM; dsimp only; split
    · exact maskF_length _
    · rfl
  · show 0 ≤ m.metric ∧ m.metric ≤ 4294967295; omega
theorem lineF_length {m : Msg} (h : okR m) : (lineF m).length = 20 := by
  have g := entM_ok h
  unfold lineF entB
  have h1 := g.addr; have h2 := g.mask; have h3 := g.next
  simp [be_length, h1, h2, h3]
theorem zeros4 : g_octet_Zeros (4, ()) = some ((z4, ()), ()) := by
  rw [g_octet_Zeros_eq, if_pos (by unfold roomI; decide)]; rfl
theorem line_is {m : Msg} (h : okR m) : g_rip_line (m, ()) = some ((lineF m, ()), ()) := by
  have g := entPut_is (entM_ok h)
  rw [g_rip_line_eq, zeros4, Option.bind_some]
  refine bq_step (fun f2 => bq_step (fun v2 => ?_) (fun v2 => ?_)) (fun f2 => ?_)
  · have hp : 0 ≤ m.plen ∧ m.plen ≤ 32 := by obtain ⟨_, _, _, _, _, _, _, h⟩ := h; omega
    rw [maskOf_is hp.1 hp.2, Option.bind_some]
    have e : entM m = ⟨m.family, m.tag, m.prefix_, maskF m.plen, m.next, m.metric⟩ := by unfold entM; rw [if_pos ⟨f2, v2⟩]
    rw [e] at g
    dsimp only
    rw [g, Option.bind_some, ← e]; rfl
  · have e : entM m = ⟨m.family, m.tag, m.prefix_, z4, m.next, m.metric⟩ := by unfold entM; rw [if_neg (fun c => v2 c.2)]
    rw [e] at g
    dsimp only
    rw [g, Option.bind_some, ← e]; rfl
  · have e : entM m = ⟨m.family, m.tag, m.prefix_, z4, m.next, m.metric⟩ := by unfold entM; rw [if_neg (fun c => f2 c.1)]
    rw [e] at g
    dsimp only
    rw [g, Option.bind_some, ← e]; rfl
theorem rline_is {m : Msg} (h : okR m) : g_ref10_line (m, ()) = some ((lineF m, ()), ()) := by
  have g := rentPut_is (entM_ok h)
  rw [g_ref10_line_eq, nought_is, Option.bind_some]
  refine bq_step (fun f2 => bq_step (fun v2 => ?_) (fun v2 => ?_)) (fun f2 => ?_)
  · have hp : 0 ≤ m.plen ∧ m.plen ≤ 32 := by obtain ⟨_, _, _, _, _, _, _, h⟩ := h; omega
    rw [rmaskOf_is hp.1 hp.2, Option.bind_some]
    have e : entM m = ⟨m.family, m.tag, m.prefix_, maskF m.plen, m.next, m.metric⟩ := by unfold entM; rw [if_pos ⟨f2, v2⟩]
    rw [e] at g
    dsimp only
    rw [g, Option.bind_some, ← e]; rfl
  · have e : entM m = ⟨m.family, m.tag, m.prefix_, z4, m.next, m.metric⟩ := by unfold entM; rw [if_neg (fun c => v2 c.2)]
    rw [e] at g
    dsimp only
    rw [g, Option.bind_some, ← e]; rfl
  · have e : entM m = ⟨m.family, m.tag, m.prefix_, z4, m.next, m.metric⟩ := by unfold entM; rw [if_neg (fun c => f2 c.1)]
    rw [e] at g
    dsimp only
    rw [g, Option.bind_some, ← e]; rfl
def togP (f m : Msg) : Prop := m.cmd = f.cmd ∧ m.ver = f.ver ∧ m.auth = f.auth ∧ m.family ≠ 0 ∧ f.family ≠ 0
instance (f m : Msg) : Decidable (togP f m) := by unfold togP; infer_instance
def encGo (f : Msg) (most : Int) : List Msg → Nat → Bs → Bs × Int × Int
  | [], _, acc => (acc, 0, 0)
  | m :: r, i, acc => if (i : Int) = most then ([], (i : Int), 8) else if 0 < i ∧ ¬ togP f m then ([], (i : Int), 7) else encGo f most r (i + 1) (acc ++ lineF m)
theorem tog_is (f m : Msg) : ∃ b, g_rip_together (f, m, ()) = some ((b, ()), ()) ∧ (b = true ↔ togP f m) := by
  rw [g_rip_together_eq]
  by_cases h1 : m.cmd = f.cmd
  · rw [if_pos (by simp [h1])]
    by_cases h2 : m.ver = f.ver
    · rw [if_pos (by simp [h2])]
      by_cases h3 : m.auth = f.auth
      · rw [if_pos (by simp [h3])]
        by_cases h4 : m.family = 0
        · rw [if_neg (by simp [h4])]; exact ⟨_, rfl, by simp [togP, h4]⟩
        · rw [if_pos (by simp [h4])]; exact ⟨_, rfl, by simp [togP, h1, h2, h3, h4]⟩
      · rw [if_neg (by simpa using h3)]; exact ⟨_, rfl, by simp [togP, h3]⟩
    · rw [if_neg (by simpa using h2)]; exact ⟨_, rfl, by simp [togP, h2]⟩
  · rw [if_neg (by simpa using h1)]; exact ⟨_, rfl, by simp [togP, h1]⟩
theorem enc1_loop {n : Nat} {l : List Msg} {f : Msg} {most : Int} (hf : l[0]? = some f) (hok : ∀ m ∈ l, okR m) (hl : l.length ≤ 1000) : ∀ (d m i : Nat) (acc : Bs), i + d = l.length → d < m → acc.length ≤ 1000 + 20 * i →
    L_rip_Encode_1 n m l most acc i = some (((encGo f most (l.drop i) i acc).1, (encGo f most (l.drop i) i acc).2.1, (encGo f most (l.drop i) i acc).2.2, ()), ()) := by
  intro d
  induction d with
  | zero =>
    intro m i acc hd hm ha
    obtain ⟨m, rfl⟩ : ∃ k, m = k + 1 := ⟨m - 1, by omega⟩
    rw [L_rip_Encode_1_eq, ifn (by omega), List.drop_eq_nil_of_le (by omega)]; rfl
  | succ d ih =>
    intro m i acc hd hm ha
    obtain ⟨m, rfl⟩ : ∃ k, m = k + 1 := ⟨m - 1, by omega⟩
    have hi : i < l.length := by omega
    have ho := hok _ (List.getElem_mem hi)
    have := ih m (i + 1) (acc ++ lineF l[i]) (by omega) (by omega) (by simp [lineF_length ho]; omega)
    rw [show ((i + 1 : Nat) : Int) = (i : Int) + 1 by omega] at this
    rw [L_rip_Encode_1_eq, ifd (by omega), if_pos (by omega), Int.toNat_natCast, bind_at hi, List.drop_eq_getElem_cons hi, hf, Option.bind_some, line_is ho, Option.bind_some, if_pos (roomB_of (by rw [lineF_length ho]; omega)), w64 (by omega) (by omega), this, encGo]
    refine bq_step (fun h => ?_) (fun h => ?_)
    · rw [if_pos h]
    rw [if_neg h]
    obtain ⟨b, hb, hb'⟩ := tog_is f l[i]
    rw [hb, Option.bind_some]
    refine dq_step (fun h0 => ?_) (fun h0 => ?_)
    · refine nb_step (fun hz => ?_) (fun hz => ?_)
      · rw [if_pos ⟨by omega, by rw [← hb']; dsimp only at hz; rw [hz]; simp⟩]
      · rw [if_neg (fun c => c.2 (hb'.1 hz))]
    · rw [if_neg (fun c => h0 (by omega))]
theorem renc1_loop {n : Nat} {l : List Msg} {f : Msg} {most : Int} (hf : l[0]? = some f) (hok : ∀ m ∈ l, okR m) (hl : l.length ≤ 1000) (hmost : 0 ≤ most) : ∀ (d m i : Nat) (acc : Bs), i + d = l.length → d < m → (i : Int) ≤ most → acc.length ≤ 1000 + 20 * i →
    L_ref10_Encode_1 n m l f most acc i = some (((encGo f most (l.drop i) i acc).1, (encGo f most (l.drop i) i acc).2.1, (encGo f most (l.drop i) i acc).2.2, ()), ()) := by
  intro d
  induction d with
  | zero =>
    intro m i acc hd hm hmo ha
    obtain ⟨m, rfl⟩ : ∃ k, m = k + 1 := ⟨m - 1, by omega⟩
    rw [L_ref10_Encode_1_eq, ifn (by omega), List.drop_eq_nil_of_le (by omega)]; rfl
  | succ d ih =>
    intro m i acc hd hm hmo ha
    obtain ⟨m, rfl⟩ : ∃ k, m = k + 1 := ⟨m - 1, by omega⟩
    have hi : i < l.length := by omega
    have ho := hok _ (List.getElem_mem hi)
    rw [L_ref10_Encode_1_eq, ifd (by omega), List.drop_eq_getElem_cons hi, encGo]
    refine dq_step (fun h => ?_) (fun h => ?_)
    · rw [if_pos (show (i : Int) = most by omega)]
    have := ih m (i + 1) (acc ++ lineF l[i]) (by omega) (by omega) (by omega) (by simp [lineF_length ho]; omega)
    rw [show ((i + 1 : Nat) : Int) = (i : Int) + 1 by omega] at this
    rw [if_neg (show ¬ (i : Int) = most by omega)]
    have hp : 0 ≤ (i : Int) := by omega
    have hfi : i = 0 → l[i] = f := fun h0 => by
      subst h0
      rw [List.getElem?_eq_getElem hi] at hf; exact Option.some.inj hf
    simp only [if_pos hp, Int.toNat_natCast, List.getElem?_eq_getElem hi, Option.bind_some, rline_is ho]
    rw [if_pos (maxB_of (by rw [lineF_length ho]; omega)), w64 (by omega) (by omega), this]
    have key : ¬ togP f l[i] → 0 < i → (some (([], (i : Int), 7, ()), ()) : Option ((Bs × Int × Int × Unit) × Unit)) = some (((if 0 < i ∧ ¬ togP f l[i] then ([], (i : Int), 7) else encGo f most (List.drop (i + 1) l) (i + 1) (acc ++ lineF l[i])).1, (if 0 < i ∧ ¬ togP f l[i] then ([], (i : Int), 7) else encGo f most (List.drop (i + 1) l) (i + 1) (acc ++ lineF l[i])).2.1, (if 0 < i ∧ ¬ togP f l[i] then ([], (i : Int), 7) else encGo f most (List.drop (i + 1) l) (i + 1) (acc ++ lineF l[i])).2.2, ()), ()) := fun h h0 => by
      rw [if_pos ⟨h0, h⟩]
    have pos : ∀ {P : Prop}, ¬ P → (i = 0 → P) → 0 < i := fun {P} h h' => by
      rcases Nat.eq_zero_or_pos i with h0 | h0
      · exact absurd (h' h0) h
      · exact h0
    refine ne_step (fun hc => ?_) (fun hc => ?_)
    · exact key (fun c => hc c.1) (pos hc (fun h0 => by rw [hfi h0]))
    refine ne_step (fun hv => ?_) (fun hv => ?_)
    · exact key (fun c => hv c.2.1) (pos hv (fun h0 => by rw [hfi h0]))
    refine nq_step (fun ha => ?_) (fun ha => ?_)
    · exact key (fun c => ha c.2.2.1) (pos ha (fun h0 => by rw [hfi h0]))
    refine dq_step (fun h0 => ?_) (fun h0 => ?_)
    · refine bq_step (fun h1 => key (fun c => c.2.2.2.2 h1) (by omega)) (fun h1 => ?_)
      refine bq_step (fun h2 => key (fun c => c.2.2.2.1 h2) (by omega)) (fun h2 => ?_)
      rw [if_neg (fun c => c.2 ⟨hc, hv, ha, h2, h1⟩)]
    · rw [if_neg (fun c => h0 (by omega))]
open Classical in
noncomputable def badR : List Msg → Nat → Option Nat
  | [], _ => none
  | m :: r, i => if okR m then badR r (i + 1) else some i
def mostR (f : Msg) : Int := if f.auth = [] then 25 else 24
def headE (f : Msg) : Bs := [u8of (f.cmd % 256), u8of (f.ver % 256), 0, 0] ++ (if f.auth = [] then [] else [255, 255] ++ f.auth)
noncomputable def encR (l : List Msg) : Bs × Int × Int := match badR l 0 with
  | some i => ([], (i : Int), 1)
  | none => match l with
    | [] => ([], 0, 8)
    | f :: _ => encGo f (mostR f) l 0 (headE f)
theorem badR_none : ∀ {l : List Msg} {i : Nat}, badR l i = none → ∀ m ∈ l, okR m
  | [], _, _, m, hm => by cases hm
  | x :: r, i, h, m, hm => by
    unfold badR at h
    split at h
    · rename_i hx
      rcases List.mem_cons.1 hm with rfl | hm
      · exact hx
      · exact badR_none h m hm
    · cases h
theorem badR_ok : ∀ {l : List Msg} {i : Nat}, (∀ m ∈ l, okR m) → badR l i = none
  | [], _, _ => rfl
  | x :: r, i, h => by
    unfold badR; rw [if_pos (h x (by simp))]; exact badR_ok (fun m hm => h m (by simp [hm]))
theorem badR_some : ∀ {l : List Msg} {i j : Nat}, badR l i = some j → i ≤ j ∧ j < i + l.length
  | [], _, _, h => by cases h
  | x :: r, i, j, h => by
    unfold badR at h
    split at h
    · have := badR_some h; simp; omega
    · cases h; simp
theorem headE_length {f : Msg} (h : okR f) : (headE f).length = if f.auth = [] then 4 else 24 := by
  obtain ⟨_, _, _, _, _, _, ha, _⟩ := h
  unfold headE
  by_cases e : f.auth = []
  · rw [if_pos e, if_pos e]; rfl
  · rw [if_neg e, if_neg e]
    have : f.auth.length = 18 := by rcases ha with h | h; exact absurd h e; exact h.2
    simp [this]
theorem enc_is {l : List Msg} (g : ∀ m ∈ l, RM m) (hl : l.length ≤ 1000) : g_rip_Encode (l, ()) = some (((encR l).1, (encR l).2.1, (encR l).2.2, ()), ()) := by
  show h_rip_Encode fuel (l, ()) = _
  rw [h_rip_Encode_eq]
  have main : ∀ (d m i : Nat), i + d = l.length → d < m → badR l 0 = badR (l.drop i) i → L_rip_Encode_0 fuel m l i = some (((encR l).1, (encR l).2.1, (encR l).2.2, ()), ()) := by
    intro d
    induction d with
    | zero =>
      intro m i hd hm hb
      obtain ⟨m, rfl⟩ : ∃ k, m = k + 1 := ⟨m - 1, by omega⟩
      rw [List.drop_eq_nil_of_le (by omega)] at hb
      have hn : badR l 0 = none := hb
      have hok := badR_none hn
      rw [L_rip_Encode_0_eq, ifn (by omega)]
      cases l with
      | nil => rfl
      | cons f r =>
        have hf := hok f (by simp)
        have hl4 := headE_length hf
        have he : encR (f :: r) = encGo f (mostR f) (f :: r) 0 (headE f) := by unfold encR; rw [hn]
        rw [he, if_neg (by simp; omega)]
        simp only [List.getElem?_cons_zero, Option.bind_some]
        have L := fun (most : Int) (acc : Bs) (h : acc.length ≤ 1000) => enc1_loop (n := fuel) (f := f) (most := most) (l := f :: r) rfl hok hl (f :: r).length fuel 0 acc (by omega) (fuel_ge (by omega)) (by omega)
        rw [g_auth_Put_eq, wu8, wu8]
        by_cases ha : f.auth = []
        · rw [if_pos (by simp [ha]), Option.bind_some]
          have e1 : headE f = [u8of (f.cmd % 256), u8of (f.ver % 256), 0, 0] := by unfold headE; rw [if_pos ha]; rfl
          have e2 : mostR f = 25 := by unfold mostR; rw [if_pos ha]
          dsimp only
          rw [iff_, e1, e2]
          exact L 25 _ (by simp)
        · have h18 : f.auth.length = 18 := by
            obtain ⟨_, _, _, _, _, _, ha', _⟩ := hf
            rcases ha' with h | h
            · exact absurd h ha
            · exact h.2
          rw [if_neg (by simp; omega), if_pos (maxB_of (by omega)), Option.bind_some]
          have e1 : headE f = [u8of (f.cmd % 256), u8of (f.ver % 256), 0, 0] ++ ([255, 255] ++ f.auth) := by unfold headE; rw [if_neg ha]
          have e2 : mostR f = 24 := by unfold mostR; rw [if_neg ha]
          dsimp only
          rw [ift, if_pos (roomB_of (by simp; omega)), e1, e2]
          exact L 24 _ (by simp; omega)
    | succ d ih =>
      intro m i hd hm hb
      obtain ⟨m, rfl⟩ : ∃ k, m = k + 1 := ⟨m - 1, by omega⟩
      have hi : i < l.length := by omega
      rw [List.drop_eq_getElem_cons hi, badR] at hb
      rw [L_rip_Encode_0_eq, ifd (by omega), if_pos (by omega), Int.toNat_natCast, bind_at hi, ripRight_is (g _ (List.getElem_mem hi)), Option.bind_some]
      dsimp only
      by_cases ho : okR l[i]
      · rw [if_pos ho] at hb
        have := ih m (i + 1) (by omega) (by omega) hb
        rw [rightR_true.2 ho, ifnt, w64 (by omega) (by omega)]
        exact this
      · rw [if_neg ho] at hb
        have : rightR l[i] = false := by cases e' : rightR l[i] with | false => rfl | true => exact absurd (rightR_true.1 e') ho
        rw [this, ifnf]
        unfold encR; rw [hb]
  exact main l.length fuel 0 (by omega) (fuel_ge (by omega)) rfl
theorem renc_is {l : List Msg} (g : ∀ m ∈ l, RM m) (hl : l.length ≤ 1000) : g_ref10_Encode (l, ()) = some (((encR l).1, (encR l).2.1, (encR l).2.2, ()), ()) := by
  show h_ref10_Encode fuel (l, ()) = _
  rw [h_ref10_Encode_eq]
  have main : ∀ (d m i : Nat), i + d = l.length → d < m → badR l 0 = badR (l.drop i) i → L_ref10_Encode_0 fuel m l i = some (((encR l).1, (encR l).2.1, (encR l).2.2, ()), ()) := by
    intro d
    induction d with
    | zero =>
      intro m i hd hm hb
      obtain ⟨m, rfl⟩ : ∃ k, m = k + 1 := ⟨m - 1, by omega⟩
      rw [List.drop_eq_nil_of_le (by omega)] at hb
      have hn : badR l 0 = none := hb
      have hok := badR_none hn
      rw [L_ref10_Encode_0_eq, ifn (by omega)]
      cases l with
      | nil => rfl
      | cons f r =>
        have hf := hok f (by simp)
        have he : encR (f :: r) = encGo f (mostR f) (f :: r) 0 (headE f) := by unfold encR; rw [hn]
        have hc : 0 ≤ f.cmd ∧ f.cmd < 256 := by obtain ⟨_, _, hc, _⟩ := hf; omega
        have hv : 0 ≤ f.ver ∧ f.ver < 256 := by obtain ⟨_, _, _, hv, _⟩ := hf; omega
        have r1 := rof_is (n := f.cmd) (k := 1) (has64.2 (by omega)) (by omega) (by omega)
        have r2 := rof_is (n := f.ver) (k := 1) (has64.2 (by omega)) (by omega) (by omega)
        rw [oput1 (by unfold fitsB; rw [decide_eq_true_eq]; omega)] at r1 r2
        rw [show ((1 : Nat) : Int) = 1 from rfl] at r1 r2
        rw [he, if_neg (by simp; omega)]
        simp only [List.getElem?_cons_zero, Option.bind_some, r1, r2]
        rw [show be 1 f.cmd = [u8of (f.cmd % 256)] from rfl, show be 1 f.ver = [u8of (f.ver % 256)] from rfl]
        rw [if_pos (maxB_of (by simp)), if_pos (maxB_of (by simp))]
        have L := fun (most : Int) (acc : Bs) (h : acc.length ≤ 1000) (h0 : 0 ≤ most) => renc1_loop (n := fuel) (f := f) (most := most) (l := f :: r) rfl hok hl h0 (f :: r).length fuel 0 acc (by omega) (fuel_ge (by omega)) (by omega) (by omega)
        by_cases ha : f.auth = []
        · have e1 : headE f = ([u8of (f.cmd % 256)] ++ [u8of (f.ver % 256)]) ++ [0, 0] := by unfold headE; rw [if_pos ha]; rfl
          have e2 : mostR f = 25 := by unfold mostR; rw [if_pos ha]
          rw [if_neg (by simp [ha]), e1, e2]
          exact L 25 _ (by simp) (by omega)
        · have h18 : f.auth.length = 18 := by
            obtain ⟨_, _, _, _, _, _, ha', _⟩ := hf
            rcases ha' with h | h
            · exact absurd h ha
            · exact h.2
          have e1 : headE f = (([u8of (f.cmd % 256)] ++ [u8of (f.ver % 256)]) ++ [0, 0]) ++ ([255, 255] ++ f.auth) := by unfold headE; rw [if_neg ha]; rfl
          have e2 : mostR f = 24 := by unfold mostR; rw [if_neg ha]
          rw [if_pos (by simpa using ha), g_ref09_Put_eq, if_neg (by simp; omega), if_pos (maxB_of (by omega)), Option.bind_some]
          dsimp only
          rw [if_pos (maxB_of (by simp; omega)), e1, e2]
          exact L 24 _ (by simp; omega) (by omega)
    | succ d ih =>
      intro m i hd hm hb
      obtain ⟨m, rfl⟩ : ∃ k, m = k + 1 := ⟨m - 1, by omega⟩
      have hi : i < l.length := by omega
      rw [List.drop_eq_getElem_cons hi, badR] at hb
      rw [L_ref10_Encode_0_eq, ifd (by omega), if_pos (by omega), Int.toNat_natCast, bind_at hi, rripRight_is (g _ (List.getElem_mem hi)), Option.bind_some]
      dsimp only
      by_cases ho : okR l[i]
      · rw [if_pos ho] at hb
        have := ih m (i + 1) (by omega) (by omega) hb
        rw [rightR_true.2 ho, ifnt, w64 (by omega) (by omega)]
        exact this
      · rw [if_neg ho] at hb
        have : rightR l[i] = false := by cases e' : rightR l[i] with | false => rfl | true => exact absurd (rightR_true.1 e') ho
        rw [this, ifnf]
        unfold encR; rw [hb]
  exact main l.length fuel 0 (by omega) (fuel_ge (by omega)) rfl
end Go.VP
