import Derived.Test.YtbjjekbhopgonaaGreatGaFH
import Derived.Test.YtbjjekbhopgonaaGreatGaFQ5
import Derived.Test.YtbjjekbhopgonaaGreatGaM0
import Derived.Test.YtbjjekbhopgonaaGreatGaM1
import Derived.Test.YtbjjekbhopgonaaGreatGaFQ7
import Derived.Test.YtbjjekbhopgonaaGreatGaFQ3
import Derived.Test.YtbjjekbhopgonaaGreatGaFGood
import Derived.Test.YtbjjekbhopgonaaGreatGaFQ15
import Derived.Test.YtbjjekbhopgonaaGreatGaFQ4
import Derived.Test.YtbjjekbhopgonaaGreatGaFQ16
set_option linter.unusedVariables false
set_option linter.unusedSimpArgs false
set_option maxRecDepth 100000
namespace Go.VP
open Go Go.VI
def hopL (nx : Bs) (m : Msg) : Bs := if m.next = nx then [] else entG m.next 0 0 255
def lineN (nx : Bs) (m : Msg) : Bs := hopL nx m ++ entG m.prefix_ m.tag m.plen m.metric
theorem lineN_len {nx : Bs} {m : Msg} (h : NgR m) : (lineN nx m).length = if m.next = nx then 20 else 40 := by
  unfold lineN hopL
  split <;> simp [entG_len h.len, entG_len h.next16]
def encN (c : Int) : List Msg → Nat → Bs → Bs → Bs × Int × Int
  | [], _, acc, _ => (acc, 0, 0)
  | m :: r, i, acc, nx => if m.cmd ≠ c then ([], (i : Int), 7) else if 65535 < (acc ++ lineN nx m).length then ([], (i : Int), 10) else encN c r (i + 1) (acc ++ lineN nx m) m.next
theorem ngput_is {acc nx a : Bs} {t f m : Int} (ha : a.length = 16) (ht : 0 ≤ t ∧ t < 65536) (hf : 0 ≤ f ∧ f < 256) (hm : 0 ≤ m ∧ m < 256) (hl : acc.length ≤ 1000000) :
    g_ripng_writer_put (⟨acc, nx⟩, ⟨f, t, a, [], [], m⟩, ()) = some ((), (⟨acc ++ entG a t f m, nx⟩, ())) := by
  rw [g_ripng_writer_put_eq, rteput_is ha ht hf hm, Option.bind_some]
  dsimp only
  rw [if_pos (roomB_of (by rw [entG_len ha]; omega))]
theorem ngroute_is {acc nx : Bs} {m : Msg} (h : NgR m) (hl : acc.length ≤ 100000) : g_ripng_writer_route (⟨acc, nx⟩, m, ()) = some ((), (⟨acc ++ lineN nx m, m.next⟩, ())) := by
  have hp := h.plen
  have hm := h.metric
  rw [g_ripng_writer_route_eq]
  unfold lineN hopL
  refine nq_step (fun q => ?_) (fun q => ?_)
  · rw [if_neg q, ngput_is h.next16 (by omega) (by omega) (by omega) (by show acc.length ≤ _; omega), Option.bind_some]
    dsimp only
    rw [ngput_is h.len h.tag (by omega) (by omega) (by rw [List.length_append, entG_len h.next16]; omega), Option.bind_some, List.append_assoc]
  · dsimp only at q
    rw [if_pos q, ngput_is h.len h.tag (by omega) (by omega) (by omega), Option.bind_some, q]
    rfl
theorem ngenc_loop {n : Nat} {l : List Msg} {f : Msg} (hf : l[0]? = some f) (hok : ∀ m ∈ l, NgR m) (hl : l.length ≤ 1000000) : ∀ (d m i : Nat) (acc nx : Bs), i + d = l.length → d < m → acc.length ≤ 65535 →
    L_ripng_Encode_1 n m l acc nx i = some (trip (encN f.cmd (l.drop i) i acc nx), ()) := by
  intro d
  induction d with
  | zero =>
    intro m i acc nx hd hm ha
    obtain ⟨m, rfl⟩ : ∃ k, m = k + 1 := ⟨m - 1, by omega⟩
    rw [L_ripng_Encode_1_eq, ifn (by omega), List.drop_eq_nil_of_le (by omega)]; try rfl
  | succ d ih =>
    intro m i acc nx hd hm ha
    obtain ⟨m, rfl⟩ : ∃ k, m = k + 1 := ⟨m - 1, by omega⟩
    have hi : i < l.length := by omega
    have ho := hok _ (List.getElem_mem hi)
    rw [L_ripng_Encode_1_eq, ifd (by omega), if_pos (by omega), Int.toNat_natCast, bind_at hi, hf, Option.bind_some, List.drop_eq_getElem_cons hi, encN, ngroute_is ho (by omega), Option.bind_some]
    refine ne_step (fun h => ?_) (fun h => ?_)
    · rw [if_pos h]; try rfl
    rw [if_neg (show ¬ l[i].cmd ≠ f.cmd from fun c => c h)]
    refine dq_step (fun h => ?_) (fun h => ?_)
    · rw [if_pos (show 65535 < (acc ++ lineN nx l[i]).length by dsimp only at h; omega)]; try rfl
    · dsimp only at h
      have := ih m (i + 1) (acc ++ lineN nx l[i]) l[i].next (by omega) (by omega) (by omega)
      rw [show ((i + 1 : Nat) : Int) = (i : Int) + 1 by omega] at this
      rw [if_neg (show ¬ 65535 < (acc ++ lineN nx l[i]).length by omega), w64 (by omega) (by omega)]
      exact this
def badP (f : Msg → Bool) : List Msg → Nat → Option Nat
  | [], _ => none
  | m :: r, i => if f m = true then badP f r (i + 1) else some i
theorem badP_none {f : Msg → Bool} : ∀ {l : List Msg} {i : Nat}, badP f l i = none → ∀ m ∈ l, f m = true
  | [], _, _, m, hm => by cases hm
  | x :: r, i, h, m, hm => by
    unfold badP at h
    split at h
    · rename_i hx
      rcases List.mem_cons.1 hm with rfl | hm
      · exact hx
      · exact badP_none h m hm
    · cases h
theorem badP_ok {f : Msg → Bool} : ∀ {l : List Msg} {i : Nat}, (∀ m ∈ l, f m = true) → badP f l i = none
  | [], _, _ => rfl
  | x :: r, i, h => by
    unfold badP; rw [if_pos (h x (by simp))]; exact badP_ok (fun m hm => h m (by simp [hm]))
noncomputable def encNg (l : List Msg) : Bs × Int × Int := match badP ngB l 0 with
  | some i => ([], (i : Int), 1)
  | none => match l with
    | [] => ([], 0, 8)
    | f :: _ => encN f.cmd l 0 [u8of f.cmd, 1, 0, 0] z16
theorem ngenc_is {l : List Msg} (g : ∀ m ∈ l, GoodG m) (hl : l.length ≤ 1000000) : g_ripng_Encode (l, ()) = some (trip (encNg l), ()) := by
  show h_ripng_Encode fuel (l, ()) = _
  rw [h_ripng_Encode_eq]
  have main : ∀ (d m i : Nat), i + d = l.length → d < m → badP ngB l 0 = badP ngB (l.drop i) i → L_ripng_Encode_0 fuel m l i = some (trip (encNg l), ()) := by
    intro d
    induction d with
    | zero =>
      intro m i hd hm hb
      obtain ⟨m, rfl⟩ : ∃ k, m = k + 1 := ⟨m - 1, by omega⟩
      rw [List.drop_eq_nil_of_le (by omega)] at hb
      have hn : badP ngB l 0 = none := hb
      have hok := badP_none hn
      rw [L_ripng_Encode_0_eq, ifn (by omega)]
      cases l with
      | nil => rfl
      | cons f r =>
        have hf := ngR_iff.1 (hok f (by simp))
        have he : encNg (f :: r) = encN f.cmd (f :: r) 0 [u8of f.cmd, 1, 0, 0] z16 := by unfold encNg; rw [hn]
        have L := ngenc_loop (n := fuel) (f := f) (l := f :: r) rfl (fun m hm => ngR_iff.1 (hok m hm)) hl (f :: r).length fuel 0 [u8of f.cmd, 1, 0, 0] z16 (by omega) (fuel_ge (by omega)) (by simp)
        have hc := hf.cmd
        rw [he, if_neg (by simp; omega), show (f :: r)[0]? = some f from rfl, Option.bind_some, zeros16, Option.bind_some, wu8, u8of_emod' (by omega)]
        exact L
    | succ d ih =>
      intro m i hd hm hb
      obtain ⟨m, rfl⟩ : ∃ k, m = k + 1 := ⟨m - 1, by omega⟩
      have hi : i < l.length := by omega
      rw [List.drop_eq_getElem_cons hi, badP] at hb
      rw [L_ripng_Encode_0_eq, ifd (by omega), if_pos (by omega), Int.toNat_natCast, bind_at hi, ngright_is (g _ (List.getElem_mem hi)), Option.bind_some]
      dsimp only
      cases ho : ngB l[i] with
      | true =>
        rw [if_pos ho] at hb
        have := ih m (i + 1) (by omega) (by omega) hb
        rw [ifnt, w64 (by omega) (by omega)]
        exact this
      | false =>
        rw [if_neg (by rw [ho]; simp)] at hb
        rw [ifnf]
        unfold encNg; rw [hb]; try rfl
  exact main l.length fuel 0 (by omega) (fuel_ge (by omega)) rfl
end Go.VP
set_option linter.unusedVariables false
set_option linter.unusedSimpArgs false
set_option maxRecDepth 100000
namespace Go.VP
open Go Go.VI
def entM2 (m : Msg) : EntN := ⟨m.plen, m.tag, m.prefix_, [], [], m.metric⟩
theorem NgR.is {m : Msg} (h : NgR m) : m = msgN m.cmd m.next (entM2 m) := by
  have hb := h.bare
  unfold bareB bareOf at hb
  rw [if_neg (by have := h.kind; omega), if_pos h.kind] at hb
  have := (eqB_true.1 hb).symm
  rw [h.kind] at this
  exact this
theorem msgN_ok {c : Int} {nx : Bs} {e : EntN} (hc : c = 1 ∨ c = 2) (hn : nx = z16 ∨ linkB nx = true) (he : EntKN e) (h0 : errN e = 0) (hm : e.metric ≠ 255) : NgR (msgN c nx e) := by
  unfold errN at h0
  rw [if_neg hm] at h0
  by_cases hp : preB e.addr e.family = true
  · rw [if_neg (fun c => c hp)] at h0
    by_cases hq : e.metric < 1 ∨ 16 < e.metric
    · rw [if_pos hq] at h0; omega
    · refine ⟨rfl, ?_, hc, he.tag, ?_, he.addr, hp, hn⟩
      · unfold bareB bareOf
        rw [if_neg (show ¬ ((msgN c nx e).kind = 1) from fun q => absurd (show (2 : Int) = 1 from q) (by decide)), if_pos (show (msgN c nx e).kind = 2 from rfl)]
        exact eqB_refl _
      · show 1 ≤ e.metric ∧ e.metric ≤ 16
        omega
  · rw [if_pos hp] at h0; omega
theorem cut_drop (b : Bs) (p k : Nat) : cut_ b p (k : Int) = (b.drop p).take k := by
  unfold cut_
  rw [show ((p : Int) + (k : Int)).toNat = p + k by omega, Int.toNat_natCast, List.drop_take]
  congr 1
  omega
theorem entN_G {a : Bs} {t f m : Int} (ha : a.length = 16) (ht : 0 ≤ t ∧ t < 65536) (hf : 0 ≤ f ∧ f < 256) (hm : 0 ≤ m ∧ m < 256) : entN (entG a t f m) = ⟨f, t, a, [], [], m⟩ := by
  have h2 : (be 2 t).length = 2 := be_length 2 t
  have e1 : bt (entG a t f m) 18 = f := by
    unfold bt entG
    rw [List.getElem?_append_right (by omega), List.getElem?_append_right (by omega), ha, h2]
    show (((u8of f)).toNat : Int) = f
    rw [u8of_int]; omega
  have e2 : bt (entG a t f m) 19 = m := by
    unfold bt entG
    rw [List.getElem?_append_right (by omega), List.getElem?_append_right (by omega), ha, h2]
    show (((u8of m)).toNat : Int) = m
    rw [u8of_int]; omega
  have e3 : num (cut_ (entG a t f m) 16 2) = t := by
    have := cut_drop (entG a t f m) 16 2
    rw [show ((16 : Nat) : Int) = 16 from rfl, show ((2 : Nat) : Int) = 2 from rfl] at this
    rw [this]
    unfold entG
    rw [show List.drop 16 (a ++ (be 2 t ++ [u8of f, u8of m])) = be 2 t ++ [u8of f, u8of m] by rw [← ha, List.drop_left], List.take_left' h2]
    exact num_be 2 t ht.1 (by omega)
  have e4 : (entG a t f m).take 16 = a := by unfold entG; rw [← ha, List.take_left]
  unfold entN
  rw [e1, e2, e3, e4]
def linesN : Bs → List Msg → Bs
  | _, [] => []
  | nx, m :: r => lineN nx m ++ linesN m.next r
theorem goN_route {c : Int} {b rest : Bs} {p k : Nat} {m : Msg} {acc : List Msg} (h : NgR m) (hc : m.cmd = c) (hd : b.drop p = entG m.prefix_ m.tag m.plen m.metric ++ rest) : goN c b (k + 1) p m.next acc = goN c b k (p + 20) m.next (acc ++ [m]) ∧ b.drop (p + 20) = rest := by
  have hl := entG_len h.len m.tag m.plen m.metric
  have hp := h.plen
  have hme := h.metric
  have e : cut_ b p 20 = entG m.prefix_ m.tag m.plen m.metric := by
    rw [show (20 : Int) = ((20 : Nat) : Int) from rfl, cut_drop, hd, List.take_left' hl]
  have he : entN (cut_ b p 20) = entM2 m := by rw [e]; exact entN_G h.len h.tag (by omega) (by omega)
  have hm : (entM2 m).metric ≠ 255 := by show m.metric ≠ 255; omega
  have h0 : errN (entM2 m) = 0 := by
    unfold errN
    rw [if_neg hm, if_neg (fun q => q h.pre), if_neg (show ¬ ((entM2 m).metric < 1 ∨ 16 < (entM2 m).metric) by show ¬ (m.metric < 1 ∨ 16 < m.metric); omega)]
  have ho : outN c m.next (entM2 m) = [m] := by
    unfold outN
    rw [if_neg hm, ← hc, ← h.is]
  have hn : nextN m.next (entM2 m) = m.next := by unfold nextN; rw [if_neg hm]
  refine ⟨?_, by rw [← List.drop_drop, hd, List.drop_left' hl]⟩
  rw [goN, he, if_neg (fun q => q h0), ho, hn]
theorem goN_hop {c : Int} {b rest nx : Bs} {p k : Nat} {m : Msg} {acc : List Msg} (h : NgR m) (hd : b.drop p = entG m.next 0 0 255 ++ rest) : goN c b (k + 1) p nx acc = goN c b k (p + 20) m.next acc ∧ b.drop (p + 20) = rest := by
  have hl := entG_len h.next16 0 0 255
  have e : cut_ b p 20 = entG m.next 0 0 255 := by
    rw [show (20 : Int) = ((20 : Nat) : Int) from rfl, cut_drop, hd, List.take_left' hl]
  have he : entN (cut_ b p 20) = ⟨0, 0, m.next, [], [], 255⟩ := by rw [e]; exact entN_G h.next16 (by omega) (by omega) (by omega)
  have h0 : errN ⟨0, 0, m.next, [], [], 255⟩ = 0 := by unfold errN; rw [if_pos rfl, if_pos ⟨rfl, rfl⟩]
  have ho : outN c nx ⟨0, 0, m.next, [], [], 255⟩ = [] := by unfold outN; rw [if_pos rfl]
  have hn : nextN nx ⟨0, 0, m.next, [], [], 255⟩ = m.next := by
    unfold nextN
    rw [if_pos rfl]
    rcases h.next with q | q
    · dsimp only; rw [q]; split <;> rfl
    · exact if_pos q
  refine ⟨?_, by rw [← List.drop_drop, hd, List.drop_left' hl]⟩
  rw [goN, he, if_neg (fun q => q h0), ho, hn, List.append_nil]
theorem linesN_len : ∀ {l : List Msg} {nx : Bs}, (∀ m ∈ l, NgR m) → ∃ k, (linesN nx l).length = 20 * k ∧ l.length ≤ k
  | [], _, _ => ⟨0, rfl, Nat.le_refl _⟩
  | m :: r, nx, h => by
    obtain ⟨k, hk, hr⟩ := linesN_len (nx := m.next) fun x hx => h x (List.mem_cons_of_mem _ hx)
    have := lineN_len (nx := nx) (h m (List.mem_cons_self ..))
    by_cases hn : m.next = nx
    · rw [if_pos hn] at this
      exact ⟨k + 1, by unfold linesN; rw [List.length_append, this, hk]; omega, by simp; omega⟩
    · rw [if_neg hn] at this
      exact ⟨k + 2, by unfold linesN; rw [List.length_append, this, hk]; omega, by simp; omega⟩
theorem goN_lines {c : Int} {b : Bs} : ∀ (l : List Msg) (k p : Nat) (nx : Bs) (acc : List Msg), b.drop p = linesN nx l → p + 20 * k = b.length → (∀ m ∈ l, NgR m ∧ m.cmd = c) →
    goN c b k p nx acc = if acc ++ l = [] then ([], (b.length : Int), 8) else (acc ++ l, 0, 0) := by
  intro l
  induction l with
  | nil =>
    intro k p nx acc hd hk _
    have := congrArg List.length hd
    rw [List.length_drop] at this
    have hk0 : k = 0 := by unfold linesN at this; simp at this; omega
    subst hk0
    rw [goN, List.append_nil]
  | cons m r ih =>
    intro k p nx acc hd hk h
    obtain ⟨hm, hc⟩ := h m (List.mem_cons_self ..)
    have hlen := congrArg List.length hd
    rw [List.length_drop] at hlen
    unfold linesN at hd hlen
    rw [List.length_append, lineN_len hm] at hlen
    have hr := fun x hx => h x (List.mem_cons_of_mem _ hx)
    have e : acc ++ m :: r = (acc ++ [m]) ++ r := by simp
    unfold lineN hopL at hd
    by_cases hn : m.next = nx
    · rw [if_pos hn] at hd hlen
      obtain ⟨k, rfl⟩ : ∃ j, k = j + 1 := ⟨k - 1, by omega⟩
      obtain ⟨h1, h2⟩ := goN_route (k := k) (acc := acc) hm hc hd
      rw [← hn, h1, ih k (p + 20) m.next (acc ++ [m]) h2 (by omega) hr, e]
    · rw [if_neg hn] at hd hlen
      obtain ⟨k, rfl⟩ : ∃ j, k = j + 2 := ⟨k - 2, by omega⟩
      rw [List.append_assoc] at hd
      obtain ⟨h1, h2⟩ := goN_hop (c := c) (nx := nx) (k := k + 1) (acc := acc) hm hd
      obtain ⟨h3, h4⟩ := goN_route (k := k) (acc := acc) hm hc h2
      rw [h1, h3, ih k (p + 20 + 20) m.next (acc ++ [m]) h4 (by omega) hr, e]
theorem encN_ok {c : Int} : ∀ {l : List Msg} {i : Nat} {acc nx : Bs}, (encN c l i acc nx).2.2 = 0 → (∀ m ∈ l, m.cmd = c) ∧ encN c l i acc nx = (acc ++ linesN nx l, 0, 0) ∧ (acc.length ≤ 65535 → (acc ++ linesN nx l).length ≤ 65535)
  | [], i, acc, nx, _ => ⟨(fun m hm => by cases hm), by simp [encN, linesN], by simp [linesN]⟩
  | m :: r, i, acc, nx, h => by
    unfold encN at h ⊢
    by_cases h1 : m.cmd ≠ c
    · rw [if_pos h1] at h; cases h
    by_cases h2 : 65535 < (acc ++ lineN nx m).length
    · rw [if_neg h1, if_pos h2] at h; cases h
    rw [if_neg h1, if_neg h2] at h ⊢
    obtain ⟨k1, k2, k3⟩ := encN_ok h
    rw [List.append_assoc] at k2 k3
    exact ⟨fun x hx => by rcases List.mem_cons.1 hx with rfl | hx; exact Classical.byContradiction h1; exact k1 x hx, k2, fun _ => k3 (by omega)⟩
theorem encN_fine {c : Int} : ∀ {l : List Msg} {i : Nat} {acc nx : Bs}, (∀ m ∈ l, m.cmd = c) → (acc ++ linesN nx l).length ≤ 65535 → encN c l i acc nx = (acc ++ linesN nx l, 0, 0)
  | [], i, acc, nx, _, _ => by simp [encN, linesN]
  | m :: r, i, acc, nx, h, hl => by
    unfold linesN at hl ⊢
    rw [← List.append_assoc] at hl ⊢
    unfold encN
    rw [if_neg (fun q => q (h m (List.mem_cons_self ..))), if_neg (by rw [List.length_append] at hl; omega)]
    exact encN_fine (fun x hx => h x (List.mem_cons_of_mem _ hx)) hl
theorem ng_right {l : List Msg} (h : (encNg l).2.2 = 0) : (∀ m ∈ l, NgR m) ∧ l ≠ [] := by
  unfold encNg at h
  split at h
  · cases h
  · rename_i hb
    cases l with
    | nil => cases h
    | cons f r => exact ⟨fun m hm => ngR_iff.1 (badP_none hb m hm), by simp⟩
theorem ng_is {f : Msg} {r : List Msg} (h : ∀ m ∈ f :: r, NgR m) : encNg (f :: r) = encN f.cmd (f :: r) 0 [u8of f.cmd, 1, 0, 0] z16 := by
  unfold encNg
  rw [badP_ok fun m hm => ngR_iff.2 (h m hm)]
theorem headG_fine {c : Int} {x : Bs} {k : Nat} (hc : c = 1 ∨ c = 2) (hx : x.length = 20 * k) (hl : 4 + x.length ≤ 65535) : headG ([u8of c, 1, 0, 0] ++ x) = (0, 0) ∧ bt ([u8of c, 1, 0, 0] ++ x) 0 = c := by
  have e0 : bt ([u8of c, 1, 0, 0] ++ x) 0 = c := by
    show ((u8of c).toNat : Int) = c
    rw [u8of_int]; omega
  have e1 : bt ([u8of c, 1, 0, 0] ++ x) 1 = 1 := rfl
  have e2 : bt ([u8of c, 1, 0, 0] ++ x) 2 = 0 := rfl
  have e3 : bt ([u8of c, 1, 0, 0] ++ x) 3 = 0 := rfl
  have hL : ([u8of c, 1, 0, 0] ++ x).length = 4 + x.length := by simp; omega
  refine ⟨?_, e0⟩
  unfold headG
  rw [hL, e0, e1, e2, e3, if_neg (by omega), if_neg (by omega), if_neg (by omega), if_neg (by omega), if_neg (by omega), if_neg (by omega)]
theorem ng_back {l : List Msg} (h : (encNg l).2.2 = 0) : parseN (encNg l).1 = (l, 0, 0) ∧ (encNg l).1.length ≤ 65535 := by
  obtain ⟨hr, hne⟩ := ng_right h
  cases l with
  | nil => exact absurd rfl hne
  | cons f r =>
    rw [ng_is hr] at h ⊢
    obtain ⟨h1, h2, h3⟩ := encN_ok h
    have h3 := h3 (by simp)
    rw [h2]
    dsimp only
    obtain ⟨k, hk, _⟩ := linesN_len (nx := z16) hr
    rw [List.length_append] at h3
    obtain ⟨g1, g2⟩ := headG_fine (hr f (by simp)).cmd hk (by simp at h3; omega)
    have hL : ([u8of f.cmd, 1, 0, 0] ++ linesN z16 (f :: r)).length = 4 + 20 * k := by rw [List.length_append, hk]; rfl
    refine ⟨?_, by rw [List.length_append]; exact h3⟩
    unfold parseN
    rw [g1, g2, if_neg (by simp), hL, show (4 + 20 * k - 4) / 20 = k by omega]
    have := goN_lines (c := f.cmd) (b := [u8of f.cmd, 1, 0, 0] ++ linesN z16 (f :: r)) (f :: r) k 4 z16 [] rfl (by rw [hL]) (fun m hm => ⟨hr m hm, h1 m hm⟩)
    rw [this, if_neg (by simp)]
    rfl
theorem goN_ok {c : Int} {b : Bs} (hc : c = 1 ∨ c = 2) : ∀ {k p : Nat} {nx : Bs} {acc : List Msg}, p + 20 * k = b.length → (nx = z16 ∨ linkB nx = true) → (goN c b k p nx acc).2.2 = 0 → (goN c b k p nx acc).2.1 = 0 ∧ ∃ l, (goN c b k p nx acc).1 = acc ++ l ∧ acc ++ l ≠ [] ∧ (∀ m ∈ l, NgR m ∧ m.cmd = c) ∧ l.length ≤ k ∧
    ∀ nx', (linesN nx' l).length ≤ 20 * k + if nx' = nx then 0 else 20
  | 0, p, nx, acc, hk, hn, h => by
    unfold goN at h ⊢
    by_cases q : acc = []
    · rw [if_pos q] at h; cases h
    · rw [if_neg q]; exact ⟨rfl, [], by simp, by simpa using q, (fun m hm => by cases hm), Nat.le_refl _, fun nx' => by simp [linesN]⟩
  | k + 1, p, nx, acc, hk, hn, h => by
    unfold goN at h ⊢
    by_cases q : errN (entN (cut_ b p 20)) ≠ 0
    · rw [if_pos q] at h; exact absurd h q
    · rw [if_neg q] at h ⊢
      have q0 : errN (entN (cut_ b p 20)) = 0 := Classical.byContradiction q
      have hl : (cut_ b p 20).length = 20 := cut_len (n := 20) (by omega)
      have he := entN_ok hl
      generalize entN (cut_ b p 20) = e at *
      by_cases hm : e.metric = 255
      · have ho : outN c nx e = [] := by unfold outN; rw [if_pos hm]
        have hn' : nextN nx e = z16 ∨ linkB (nextN nx e) = true := by
          unfold nextN
          rw [if_pos hm]
          split
          · exact .inr (by assumption)
          · exact .inl rfl
        rw [ho, List.append_nil] at h ⊢
        obtain ⟨k0, l, k1, k2, k3, k4, k5⟩ := goN_ok hc (by omega) hn' h
        refine ⟨k0, l, k1, k2, k3, by omega, fun nx' => ?_⟩
        have := k5 nx'
        split at this <;> split <;> omega
      · have ho : outN c nx e = [msgN c nx e] := by unfold outN; rw [if_neg hm]
        have hnn : nextN nx e = nx := by unfold nextN; rw [if_neg hm]
        rw [ho, hnn] at h ⊢
        obtain ⟨k0, l, k1, k2, k3, k4, k5⟩ := goN_ok hc (by omega) hn h
        have hr := msgN_ok hc hn he q0 hm
        refine ⟨k0, msgN c nx e :: l, by rw [k1]; simp, by simp, fun m hmm => ?_, by simp; omega, fun nx' => ?_⟩
        · rcases List.mem_cons.1 hmm with rfl | hmm
          · exact ⟨hr, rfl⟩
          · exact k3 m hmm
        · have h1 := k5 nx
          rw [if_pos rfl] at h1
          have h2 := lineN_len (nx := nx') hr
          have e1 : (msgN c nx e).next = nx := rfl
          unfold linesN
          rw [List.length_append, h2, e1]
          by_cases q3 : nx' = nx
          · rw [if_pos q3.symm, if_pos q3]; omega
          · rw [if_neg (fun q => q3 q.symm), if_neg q3]; omega
theorem ng_again {b : Bs} (h : (parseN b).2.2 = 0) : (parseN b).2.1 = 0 ∧ (∀ m ∈ (parseN b).1, NgR m) ∧ (parseN b).1 ≠ [] ∧ (parseN b).1.length ≤ 3277 ∧ (encNg (parseN b).1).2.2 = 0 ∧ (encNg (parseN b).1).1.length ≤ b.length := by
  unfold parseN at h ⊢
  by_cases q : (headG b).2 ≠ 0
  · rw [if_pos q] at h; exact absurd h q
  · rw [if_neg q] at h ⊢
    obtain ⟨h1, h2, h3, _, _, _, h7⟩ := headG_ok (Classical.byContradiction q)
    obtain ⟨k0, l, k1, k2, k3, k4, k5⟩ := goN_ok h3 (by omega) (.inl rfl) h
    rw [List.nil_append] at k1 k2
    rw [k1]
    have hr : ∀ m ∈ l, NgR m := fun m hm => (k3 m hm).1
    have := k5 z16
    rw [if_pos rfl] at this
    refine ⟨k0, hr, k2, by omega, ?_⟩
    cases l with
    | nil => exact absurd rfl k2
    | cons f r =>
      have hf := (k3 f (by simp)).2
      rw [ng_is hr, encN_fine (fun m hm => by rw [(k3 m hm).2, hf]) (by rw [List.length_append]; simp; omega)]
      exact ⟨rfl, by rw [List.length_append]; simp; omega⟩
end Go.VP
set_option linter.unusedVariables false
set_option linter.unusedSimpArgs false
set_option maxRecDepth 100000
namespace Go.VP
open Go Go.VI
def W32 (n : Int) : Prop := 0 ≤ n ∧ n < 4294967296
def W8 (n : Int) : Prop := 0 ≤ n ∧ n < 256
theorem fitsB4 {n : Int} : fitsB n 4 = true ↔ W32 n := by simp [fitsB, W32]
theorem fitsB1 {n : Int} : fitsB n 1 = true ↔ W8 n := by simp [fitsB, W8]
theorem pf4 {n : Int} (h : IntKind.has .i64 n) : g_octet_Fits (n, 4, ()) = some ((fitsB n 4, ()), ()) := fits_is (k := 4) h (by omega) (by omega)
theorem pf1 {n : Int} (h : IntKind.has .i64 n) : g_octet_Fits (n, 1, ()) = some ((fitsB n 1, ()), ()) := fits_is (k := 1) h (by omega) (by omega)
structure RqR (m : Msg) : Prop where
  kind : m.kind = 3
  bare : bareB m = true
  flags : 0 ≤ m.flags ∧ m.flags ≤ 31
  addr : m.addr.length = 4
  orig : m.orig.length = 4
  nonce : W32 m.nonce
  seq : W32 m.seq
  seq2 : W32 m.seq2
  hops : W8 m.hops
  subs : extB m.subs = true
structure RpR (m : Msg) : Prop where
  kind : m.kind = 4
  bare : bareB m = true
  flags : 0 ≤ m.flags ∧ m.flags ≤ 3
  plen : 0 ≤ m.plen ∧ m.plen ≤ 31
  addr : m.addr.length = 4
  orig : m.orig.length = 4
  seq : W32 m.seq
  life : W32 m.interval
  hops : W8 m.hops
  subs : extB m.subs = true
structure AkR (m : Msg) : Prop where
  kind : m.kind = 6
  bare : bareB m = true
  subs : extB m.subs = true
def destB (d : Dest) : Bool := decide (d.addr.length = 4) && fitsB d.seq 4
structure ReR (m : Msg) : Prop where
  kind : m.kind = 5
  bare : bareB m = true
  flags : m.flags = 0 ∨ m.flags = 1
  len : 1 ≤ m.list.length ∧ m.list.length ≤ 255
  list : m.list.all destB = true
  subs : extB m.subs = true
open Classical in
noncomputable def rqB (m : Msg) : Bool := decide (RqR m)
open Classical in
noncomputable def rpB (m : Msg) : Bool := decide (RpR m ∨ AkR m)
open Classical in
noncomputable def reB (m : Msg) : Bool := decide (ReR m)
theorem rqB_iff {m : Msg} : rqB m = true ↔ RqR m := by simp [rqB]
theorem rpB_iff {m : Msg} : rpB m = true ↔ (RpR m ∨ AkR m) := by simp [rpB]
theorem reB_iff {m : Msg} : reB m = true ↔ ReR m := by simp [reB]
theorem b_eq {a b : Bool} (h : a = true ↔ b = true) : a = b := by cases a <;> cases b <;> simp_all
theorem b_no {b : Bool} (h : ¬ b = true) : b = false := by cases b <;> simp_all
structure GoodV (m : Msg) : Prop where
  nonce : IntKind.has .i64 m.nonce
  seq : IntKind.has .i64 m.seq
  seq2 : IntKind.has .i64 m.seq2
  hops : IntKind.has .i64 m.hops
  life : IntKind.has .i64 m.interval
  list : m.list.length ≤ 1000000
  ds : ∀ d ∈ m.list, IntKind.has .i64 d.seq
  subs : FewS m.subs
  subs1 : m.subs.length ≤ 1000000
theorem rq_loop {n k : Nat} {m : Msg} (g : GoodV m) : L_rreq_Right_0 n (k + 4) m [m.nonce, m.seq, m.seq2] 3 0 = some ((fitsB m.nonce 4 && (fitsB m.seq 4 && (fitsB m.seq2 4 && (fitsB m.hops 1 && extB m.subs))), ()), ()) := by
  rw [L_rreq_Right_0_eq, ifd (by decide), if_pos (by decide), show ([m.nonce, m.seq, m.seq2])[(0 : Int).toNat]? = some m.nonce from rfl, Option.bind_some, pf4 g.nonce, Option.bind_some]
  dsimp only
  cases fitsB m.nonce 4 with
  | false => rfl
  | true =>
    rw [ifnt, show IntKind.wrap .i64 ((0 : Int) + 1) = 1 from rfl, L_rreq_Right_0_eq, ifd (by decide), if_pos (by decide), show ([m.nonce, m.seq, m.seq2])[(1 : Int).toNat]? = some m.seq from rfl, Option.bind_some, pf4 g.seq, Option.bind_some]
    dsimp only
    cases fitsB m.seq 4 with
    | false => rfl
    | true =>
      rw [ifnt, show IntKind.wrap .i64 ((1 : Int) + 1) = 2 from rfl, L_rreq_Right_0_eq, ifd (by decide), if_pos (by decide), show ([m.nonce, m.seq, m.seq2])[(2 : Int).toNat]? = some m.seq2 from rfl, Option.bind_some, pf4 g.seq2, Option.bind_some]
      dsimp only
      cases fitsB m.seq2 4 with
      | false => rfl
      | true =>
        rw [ifnt, show IntKind.wrap .i64 ((2 : Int) + 1) = 3 from rfl, L_rreq_Right_0_eq, ifn (by decide), pf1 g.hops, Option.bind_some]
        dsimp only
        cases fitsB m.hops 1 with
        | false => rfl
        | true => rw [ift, eright_is g.subs.1]; rfl
theorem rqB_all {m : Msg} (hk : m.kind = 3) (hb : bareB m = true) (h0 : 0 ≤ m.flags) (h1 : m.flags ≤ 31) (ha : m.addr.length = 4) (ho : m.orig.length = 4) : rqB m = (fitsB m.nonce 4 && (fitsB m.seq 4 && (fitsB m.seq2 4 && (fitsB m.hops 1 && extB m.subs)))) := by
  apply b_eq
  simp only [Bool.and_eq_true, rqB_iff, fitsB4, fitsB1]
  exact ⟨fun h => ⟨h.nonce, h.seq, h.seq2, h.hops, h.subs⟩, fun ⟨a, b, c, d, e⟩ => ⟨hk, hb, ⟨h0, h1⟩, ha, ho, a, b, c, d, e⟩⟩
theorem rqright_is {m : Msg} (g : GoodV m) : g_rreq_Right (m, ()) = some ((rqB m, ()), ()) := by
  show h_rreq_Right fuel _ = _
  have no : ¬ RqR m → (some ((false, ()), ()) : Option ((Bool × Unit) × Unit)) = some ((rqB m, ()), ()) := fun h => by rw [b_no (fun q => h (rqB_iff.1 q))]
  rw [h_rreq_Right_eq]
  refine ne_step (fun q => no (fun h => q h.kind)) (fun hk => ?_)
  rw [bare_is, Option.bind_some]
  refine nb_step (fun q => no (fun h => by have := h.bare; dsimp only at q; rw [q] at this; cases this)) (fun hb => ?_)
  refine dq_step (fun q => no (fun h => by have := h.flags; omega)) (fun h0 => ?_)
  refine dq_step (fun q => no (fun h => by have := h.flags; omega)) (fun h1 => ?_)
  refine ne_step (fun q => no (fun h => by have := h.addr; omega)) (fun ha => ?_)
  refine ne_step (fun q => no (fun h => by have := h.orig; omega)) (fun ho => ?_)
  have hf := fuel_ge (n := 4) (by omega)
  have := rq_loop (n := fuel) (k := fuel - 4) g
  rw [show fuel - 4 + 4 = fuel by omega] at this
  rw [rqB_all hk hb (by omega) (by omega) (by omega) (by omega)]
  exact this
theorem rpB_all {m : Msg} (hk : m.kind = 4) (hb : bareB m = true) (hs : extB m.subs = true) (h0 : 0 ≤ m.flags) (h1 : m.flags ≤ 3) (h2 : 0 ≤ m.plen) (h3 : m.plen ≤ 31) (c1 : fitsB m.hops 1 = true) (c2 : fitsB m.seq 4 = true) (c3 : fitsB m.interval 4 = true) (ha : m.addr.length = 4) : rpB m = ((m.orig.length : Int) == 4) := by
  apply b_eq
  simp only [rpB_iff, beq_iff_eq]
  constructor
  · rintro (h | h)
    · have := h.orig; omega
    · have := h.kind; omega
  · intro ho
    exact .inl ⟨hk, hb, ⟨h0, h1⟩, ⟨h2, h3⟩, ha, by omega, fitsB4.1 c2, fitsB4.1 c3, fitsB1.1 c1, hs⟩
theorem rpright_is {m : Msg} (g : GoodV m) : g_rrep_Right (m, ()) = some ((rpB m, ()), ()) := by
  have no : ¬ RpR m → ¬ AkR m → (some ((false, ()), ()) : Option ((Bool × Unit) × Unit)) = some ((rpB m, ()), ()) := fun h h2 => by rw [b_no (fun q => (rpB_iff.1 q).elim h h2)]
  rw [g_rrep_Right_eq, bare_is, Option.bind_some]
  dsimp only
  cases hb : bareB m with
  | false => exact no (fun h => by have := h.bare; rw [hb] at this; cases this) (fun h => by have := h.bare; rw [hb] at this; cases this)
  | true =>
    rw [ifnt, eright_is g.subs.1, Option.bind_some]
    dsimp only
    cases hs : extB m.subs with
    | false => exact no (fun h => by have := h.subs; rw [hs] at this; cases this) (fun h => by have := h.subs; rw [hs] at this; cases this)
    | true =>
      rw [ifnt]
      refine bq_step (fun hk => by rw [rpB_iff.2 (.inr ⟨hk, hb, hs⟩)]) (fun hk6 => ?_)
      have no' : ¬ RpR m → (some ((false, ()), ()) : Option ((Bool × Unit) × Unit)) = some ((rpB m, ()), ()) := fun h => no h (fun q => hk6 q.kind)
      refine bq_step (fun hk => ?_) (fun q => no' (fun h => q h.kind))
      refine dq_step' (fun h0 => ?_) (fun q => no' (fun h => by have := h.flags; omega))
      refine dq_step' (fun h1 => ?_) (fun q => no' (fun h => by have := h.flags; omega))
      refine dq_step' (fun h2 => ?_) (fun q => no' (fun h => by have := h.plen; omega))
      refine dq_step' (fun h3 => ?_) (fun q => no' (fun h => by have := h.plen; omega))
      rw [pf1 g.hops, Option.bind_some, pf4 g.seq, Option.bind_some, pf4 g.life, Option.bind_some]
      dsimp only
      cases c1 : fitsB m.hops 1 with
      | false => exact no' (fun h => by have := fitsB1.2 h.hops; rw [c1] at this; cases this)
      | true => cases c2 : fitsB m.seq 4 with
        | false => exact no' (fun h => by have := fitsB4.2 h.seq; rw [c2] at this; cases this)
        | true => cases c3 : fitsB m.interval 4 with
          | false => exact no' (fun h => by have := fitsB4.2 h.life; rw [c3] at this; cases this)
          | true =>
            rw [ift, ift, ift]
            refine bq_step (fun ha => ?_) (fun q => no' (fun h => by have := h.addr; omega))
            rw [rpB_all hk hb hs h0 (by omega) h2 (by omega) c1 c2 c3 (by omega)]
end Go.VP
set_option linter.unusedVariables false
set_option linter.unusedSimpArgs false
set_option maxRecDepth 100000
namespace Go.VP
open Go Go.VI
theorem re_loop {n : Nat} {m : Msg} (g : GoodV m) : ∀ (d k i : Nat), i + d = m.list.length → d < k → L_rerr_Right_0 n k m i = some (((m.list.drop i).all destB && extB m.subs, ()), ()) := by
  have gl := g.list
  intro d
  induction d with
  | zero =>
    intro k i hd hk
    obtain ⟨k, rfl⟩ : ∃ j, k = j + 1 := ⟨k - 1, by omega⟩
    rw [L_rerr_Right_0_eq, ifn (by omega), List.drop_eq_nil_of_le (by omega), eright_is g.subs.1]; rfl
  | succ d ih =>
    intro k i hd hk
    obtain ⟨k, rfl⟩ : ∃ j, k = j + 1 := ⟨k - 1, by omega⟩
    have hi : i < m.list.length := by omega
    have := ih k (i + 1) (by omega) (by omega)
    rw [show ((i + 1 : Nat) : Int) = (i : Int) + 1 by omega] at this
    rw [L_rerr_Right_0_eq, ifd (by omega), if_pos (by omega), Int.toNat_natCast, bind_at hi, pf4 (g.ds _ (List.getElem_mem hi)), Option.bind_some, w64 (by omega) (by omega), this, List.drop_eq_getElem_cons hi, List.all_cons]
    unfold destB
    refine ne_step (fun q => ?_) (fun q => ?_)
    · rw [decide_eq_false (by omega)]; rfl
    · rw [decide_eq_true (by omega)]
      dsimp only
      cases fitsB m.list[i].seq 4 <;> rfl
theorem reB_all {m : Msg} (hk : m.kind = 5) (hb : bareB m = true) (hf : m.flags = 0 ∨ m.flags = 1) (hl : 1 ≤ m.list.length ∧ m.list.length ≤ 255) : reB m = (m.list.all destB && extB m.subs) := by
  apply b_eq
  simp only [Bool.and_eq_true, reB_iff]
  exact ⟨fun h => ⟨h.list, h.subs⟩, fun ⟨a, b⟩ => ⟨hk, hb, hf, hl, a, b⟩⟩
theorem errright_is {m : Msg} (g : GoodV m) : g_rerr_Right (m, ()) = some ((reB m, ()), ()) := by
  show h_rerr_Right fuel _ = _
  have no : ¬ ReR m → (some ((false, ()), ()) : Option ((Bool × Unit) × Unit)) = some ((reB m, ()), ()) := fun h => by rw [b_no (fun q => h (reB_iff.1 q))]
  rw [h_rerr_Right_eq]
  refine ne_step (fun q => no (fun h => q h.kind)) (fun hk => ?_)
  rw [bare_is, Option.bind_some]
  refine nb_step (fun q => no (fun h => by have := h.bare; dsimp only at q; rw [q] at this; cases this)) (fun hb => ?_)
  have tail : (m.flags = 0 ∨ m.flags = 1) → (if ((m.list.length : Int) == 0) = true then some ((false, ()), ()) else (if (decide (255 < (m.list.length : Int))) = true then some ((false, ()), ()) else (L_rerr_Right_0 fuel fuel m 0))) = some ((reB m, ()), ()) := by
    intro hf
    refine bq_step (fun q => no (fun h => by have := h.len; omega)) (fun h0 => ?_)
    refine dq_step (fun q => no (fun h => by have := h.len; omega)) (fun h1 => ?_)
    rw [reB_all hk hb hf (by omega)]
    have := re_loop (n := fuel) g m.list.length fuel 0 (by omega) (fuel_ge (by omega))
    rw [List.drop_zero] at this
    exact this
  refine ne_step (fun q => ?_) (fun q => tail (.inl q))
  exact ne_step (fun q2 => no (fun h => by have := h.flags; omega)) (fun q2 => tail (.inr q2))
def rqBytes (m : Msg) : Bs := [1, u8of (8 * m.flags), 0, u8of m.hops] ++ (be 4 m.nonce ++ (m.addr ++ (be 4 m.seq ++ (m.orig ++ (be 4 m.seq2 ++ encS m.subs)))))
def rpBytes (m : Msg) : Bs := [2, u8of (64 * m.flags), u8of m.plen, u8of m.hops] ++ (m.addr ++ (be 4 m.seq ++ (m.orig ++ (be 4 m.interval ++ encS m.subs))))
def akBytes (m : Msg) : Bs := [4, 0] ++ encS m.subs
def dests : List Dest → Bs
  | [] => []
  | d :: l => (d.addr ++ be 4 d.seq) ++ dests l
def reBytes (m : Msg) : Bs := [3, u8of (128 * m.flags), 0, u8of m.list.length] ++ (dests m.list ++ encS m.subs)
theorem W32.has {n : Int} (h : W32 n) : IntKind.has .i64 n := has64.2 ⟨by have := h.1; omega, by have := h.2; omega⟩
theorem pp4 {n : Int} (h : W32 n) : g_octet_Put (n, 4, ()) = some ((be 4 n, true, ()), ()) := oput_is (k := 4) h.has (by omega) (by omega) (fitsB4.2 h)
theorem word_is {n : Int} (h : W32 n) : g_rreq_word (n, ()) = some ((be 4 n, ()), ()) := by
  rw [g_rreq_word_eq, pp4 h]; rfl
theorem shl_u8 {x : Int} {k : Nat} (hx : 0 ≤ x ∧ x < 65536) (hk : k ≤ 15) : u8of (IntKind.wrap .u8 (ishl .i64 x (k : Int))) = u8of (2 ^ k * x) := by
  rw [ishl_ok hx hk, wu8, u8of_emod']
  exact Int.mul_nonneg (Int.pow_nonneg (by decide)) hx.1
theorem enc_len {m : Msg} (g : GoodV m) : (encS m.subs).length ≤ 302000000 := by
  have h := sumN_rng g.subs
  have := encS_length m.subs
  have := g.subs1
  omega
theorem u8x {x : Int} (h : 0 ≤ x) : u8of (IntKind.wrap .u8 x) = u8of x := by rw [wu8, u8of_emod' h]
noncomputable def rqPut (m : Msg) : Bs × Bool := if rqB m = true then (rqBytes m, true) else ([], false)
theorem rqput_is {m : Msg} (g : GoodV m) : g_rreq_Put (m, ()) = some (((rqPut m).1, (rqPut m).2, ()), ()) := by
  have hl := enc_len g
  rw [g_rreq_Put_eq, rqright_is g, Option.bind_some]
  unfold rqPut
  dsimp only
  cases hr : rqB m with
  | false => rfl
  | true =>
    have h := rqB_iff.1 hr
    have ha := h.addr
    have ho := h.orig
    have b4 : ∀ n, (be 4 n).length = 4 := be_length 4
    rw [ifnt, ift, eput_is g.subs g.subs1, Option.bind_some, putE_ok h.subs, word_is h.nonce, Option.bind_some, word_is h.seq, Option.bind_some, word_is h.seq2, Option.bind_some]
    dsimp only
    rw [show ((3 : Int)) = ((3 : Nat) : Int) from rfl, shl_u8 (by have := h.flags; omega) (by omega), u8x h.hops.1]
    repeat rw [if_pos (maxB_of (by simp only [List.length_append, List.length_cons, List.length_nil, b4, ha, ho]; omega))]
    unfold rqBytes
    simp only [List.append_assoc]
    rfl
noncomputable def rpPut (m : Msg) : Bs × Bool := if rpB m = true then (if m.kind = 6 then akBytes m else rpBytes m, true) else ([], false)
theorem rpput_is {m : Msg} (g : GoodV m) : g_rrep_Put (m, ()) = some (((rpPut m).1, (rpPut m).2, ()), ()) := by
  have hl := enc_len g
  rw [g_rrep_Put_eq, rpright_is g, Option.bind_some]
  unfold rpPut
  dsimp only
  cases hr : rpB m with
  | false => rfl
  | true =>
    have h := rpB_iff.1 hr
    have hs : extB m.subs = true := h.elim (fun h => h.subs) (fun h => h.subs)
    have b4 : ∀ n, (be 4 n).length = 4 := be_length 4
    rw [ifnt, ift, eput_is g.subs g.subs1, Option.bind_some, putE_ok hs]
    dsimp only
    refine bq_step (fun hk => ?_) (fun hk => ?_)
    · rw [if_pos hk, if_pos (maxB_of (by omega))]; rfl
    · have h := h.resolve_right (fun q => hk q.kind)
      have ha := h.addr
      have ho := h.orig
      rw [if_neg hk, pp4 h.seq, Option.bind_some, pp4 h.life, Option.bind_some]
      dsimp only
      rw [show ((6 : Int)) = ((6 : Nat) : Int) from rfl, shl_u8 (by have := h.flags; omega) (by omega), u8x h.hops.1, u8x h.plen.1]
      repeat rw [if_pos (maxB_of (by simp only [List.length_append, List.length_cons, List.length_nil, b4, ha, ho]; omega))]
      unfold rpBytes
      simp only [List.append_assoc]
      rfl
theorem destB_ok {d : Dest} (h : destB d = true) : d.addr.length = 4 ∧ W32 d.seq := by
  unfold destB at h
  simp only [Bool.and_eq_true, decide_eq_true_eq, fitsB4] at h
  exact h
noncomputable def rePut (m : Msg) : Bs × Bool := if reB m = true then (reBytes m, true) else ([], false)
theorem errput_loop {n : Nat} {m : Msg} (g : GoodV m) (h : ReR m) : ∀ (d k i : Nat) (acc : Bs), i + d = m.list.length → d < k → acc.length ≤ 4 + 8 * i → L_rerr_Put_0 n k m acc i = some ((acc ++ (dests (m.list.drop i) ++ encS m.subs), true, ()), ()) := by
  have gl := g.list
  have hl := enc_len g
  have hle := h.len
  intro d
  induction d with
  | zero =>
    intro k i acc hd hk ha
    obtain ⟨k, rfl⟩ : ∃ j, k = j + 1 := ⟨k - 1, by omega⟩
    rw [L_rerr_Put_0_eq, ifn (by omega), List.drop_eq_nil_of_le (by omega), eput_is g.subs g.subs1, Option.bind_some, putE_ok h.subs]
    dsimp only
    rw [if_pos (maxB_of (by omega))]; rfl
  | succ d ih =>
    intro k i acc hd hk ha
    obtain ⟨k, rfl⟩ : ∃ j, k = j + 1 := ⟨k - 1, by omega⟩
    have hi : i < m.list.length := by omega
    obtain ⟨h1, h2⟩ := destB_ok (List.all_eq_true.1 h.list _ (List.getElem_mem hi))
    have b4 : ∀ n, (be 4 n).length = 4 := be_length 4
    have := ih k (i + 1) (acc ++ m.list[i].addr ++ be 4 m.list[i].seq) (by omega) (by omega) (by simp only [List.length_append, h1, b4]; omega)
    rw [show ((i + 1 : Nat) : Int) = (i : Int) + 1 by omega] at this
    rw [L_rerr_Put_0_eq, ifd (by omega), if_pos (by omega), Int.toNat_natCast, bind_at hi, pp4 h2, Option.bind_some]
    dsimp only
    rw [if_pos (roomB_of (by omega)), if_pos (roomB_of (by rw [List.length_append, b4]; omega)), w64 (by omega) (by omega), this, List.drop_eq_getElem_cons hi, dests]
    simp only [List.append_assoc]
theorem reput2_is {m : Msg} (g : GoodV m) : g_rerr_Put (m, ()) = some (((rePut m).1, (rePut m).2, ()), ()) := by
  show h_rerr_Put fuel _ = _
  rw [h_rerr_Put_eq, errright_is g, Option.bind_some]
  unfold rePut
  dsimp only
  cases hr : reB m with
  | false => rfl
  | true =>
    have h := reB_iff.1 hr
    have hle := h.len
    have := errput_loop (n := fuel) g h m.list.length fuel 0 [3, u8of (128 * m.flags), 0, u8of m.list.length] (by omega) (fuel_ge (by omega)) (by simp)
    rw [List.drop_zero] at this
    rw [ifnt, ift, show ((7 : Int)) = ((7 : Nat) : Int) from rfl, shl_u8 (by have := h.flags; omega) (by omega), u8x (by omega)]
    exact this
end Go.VP
set_option linter.unusedVariables false
set_option linter.unusedSimpArgs false
set_option maxRecDepth 100000
namespace Go.VP
open Go Go.VI
def zM : Msg := S_api_Msg.mk 0 0 0 [] 0 0 [] 0 0 [] 0 [] 0 0 0 0 0 0 0 [] [] [] 0 [] []
def rqMsg (b : Bs) : Msg := S_api_Msg.mk 3 0 0 [] 0 0 [] 0 0 [] 0 [] (num (cut_ b 12 4)) (num (cut_ b 20 4)) 0 (bt b 1 / 8) (bt b 3) (num (cut_ b 4 4)) 0 (cut_ b 8 4) (cut_ b 16 4) [] 0 [] (getE (b.drop 24)).1
def tailE (b : Bs) (p : Nat) (m : Msg) : Msg × Int × Int := if (getE (b.drop p)).2.2 ≠ 0 then (zM, p + (getE (b.drop p)).2.1, (getE (b.drop p)).2.2) else (m, 0, 0)
def rqGet (b : Bs) : Msg × Int × Int :=
  if b.length < 24 then (zM, b.length, 2) else if ¬ (bt b 1 % 8 = 0 ∧ bt b 2 = 0) then (zM, 1, 5) else tailE b 24 (rqMsg b)
def rpMsg (b : Bs) : Msg := S_api_Msg.mk 4 0 0 [] 0 0 [] (bt b 2) 0 [] 0 [] (num (cut_ b 8 4)) 0 (num (cut_ b 16 4)) (bt b 1 / 64) (bt b 3) 0 0 (cut_ b 4 4) (cut_ b 12 4) [] 0 [] (getE (b.drop 20)).1
def akMsg (b : Bs) : Msg := S_api_Msg.mk 6 0 0 [] 0 0 [] 0 0 [] 0 [] 0 0 0 0 0 0 0 [] [] [] 0 [] (getE (b.drop 2)).1
def rpGet (b : Bs) : Msg × Int × Int :=
  if bt b 0 = 4 then (if b.length < 2 then (zM, b.length, 2) else if ¬ bt b 1 = 0 then (zM, 1, 5) else tailE b 2 (akMsg b))
  else if b.length < 20 then (zM, b.length, 2) else if ¬ (bt b 1 % 64 = 0 ∧ bt b 2 < 32) then (zM, 1, 5) else tailE b 20 (rpMsg b)
end Go.VP
set_option linter.unusedVariables false
set_option linter.unusedSimpArgs false
set_option maxRecDepth 100000
namespace Go.VP
open Go Go.VI
def destG (b : Bs) : Nat → Nat → List Dest
  | 0, _ => []
  | k + 1, p => ⟨cut_ b p 4, num (cut_ b ((p : Int) + 4) 4)⟩ :: destG b k (p + 8)
def reMsg (b : Bs) : Msg := S_api_Msg.mk 5 0 0 [] 0 0 [] 0 0 [] 0 [] 0 0 0 (bt b 1 / 128) 0 0 0 [] [] (destG b (bt b 3).toNat 4) 0 [] (getE (b.drop (4 + 8 * (bt b 3).toNat))).1
def reGet (b : Bs) : Msg × Int × Int :=
  if b.length < 4 then (zM, b.length, 2) else if ¬ (bt b 1 % 128 = 0 ∧ bt b 2 = 0) then (zM, 1, 5) else if bt b 3 = 0 then (zM, 3, 8)
  else if b.length < 4 + 8 * (bt b 3).toNat then (zM, b.length, 2) else tailE b (4 + 8 * (bt b 3).toNat) (reMsg b)
end Go.VP
set_option linter.unusedVariables false
set_option linter.unusedSimpArgs false
set_option maxRecDepth 100000
namespace Go.VP
open Go Go.VI
noncomputable def avB (m : Msg) : Bool := rqB m || (rpB m || reB m)
noncomputable def avPut (m : Msg) : Bs := if rqB m = true then rqBytes m else if rpB m = true then (if m.kind = 6 then akBytes m else rpBytes m) else if reB m = true then reBytes m else []
noncomputable def encAv (l : List Msg) : Bs × Int × Int := match badP avB l 0 with
  | some i => ([], (i : Int), 1)
  | none => match l with
    | [] => ([], 0, 8)
    | [m] => if 65535 < (avPut m).length then ([], 0, 10) else (avPut m, 0, 0)
    | _ => ([], 1, 8)
def avGet (b : Bs) : Msg × Int × Int := if bt b 0 = 1 then rqGet b else if bt b 0 = 3 then reGet b else rpGet b
def parseAv (b : Bs) : List Msg × Int × Int :=
  if 65535 < b.length then ([], 65535, 10) else if b.length = 0 then ([], 0, 2) else if bt b 0 < 1 ∨ 4 < bt b 0 then ([], 0, 4)
  else if (avGet b).2.2 ≠ 0 then ([], (avGet b).2.1, (avGet b).2.2) else ([(avGet b).1], 0, 0)
theorem avright_is {m : Msg} (g : GoodV m) : g_aodv_Right (m, ()) = some ((avB m, ()), ()) := by
  rw [g_aodv_Right_eq, rqright_is g, Option.bind_some]
  unfold avB
  dsimp only
  cases rqB m with
  | true => rfl
  | false =>
    rw [iff_, rpright_is g, Option.bind_some]
    dsimp only
    cases rpB m with
    | true => rfl
    | false => rw [iff_, errright_is g]; try rfl
theorem avenc_is {l : List Msg} (g : ∀ m ∈ l, GoodV m) (hl : l.length ≤ 1000000) : g_aodv_Encode (l, ()) = some (trip (encAv l), ()) := by
  show h_aodv_Encode fuel (l, ()) = _
  rw [h_aodv_Encode_eq]
  have main : ∀ (d m i : Nat), i + d = l.length → d < m → badP avB l 0 = badP avB (l.drop i) i → L_aodv_Encode_0 fuel m l i = some (trip (encAv l), ()) := by
    intro d
    induction d with
    | zero =>
      intro m i hd hm hb
      obtain ⟨m, rfl⟩ : ∃ k, m = k + 1 := ⟨m - 1, by omega⟩
      rw [List.drop_eq_nil_of_le (by omega)] at hb
      have hn : badP avB l 0 = none := hb
      have hok := badP_none hn
      rw [L_aodv_Encode_0_eq, ifn (by omega)]
      match l, g, hn, hok with
      | [], _, _, _ => rfl
      | x :: y :: r, _, hn, _ =>
        have he : encAv (x :: y :: r) = ([], 1, 8) := by unfold encAv; rw [hn]
        rw [he, if_neg (by simp; omega), ifd (by simp; omega)]
      | [x], g, hn, hok =>
        have g := g x (by simp)
        have hx := hok x (by simp)
        have he : encAv [x] = if 65535 < (avPut x).length then ([], 0, 10) else (avPut x, 0, 0) := by unfold encAv; rw [hn]
        have fin : ∀ s : Bs, s = avPut x → (if (decide (65535 < (s.length : Int))) = true then some ((([] : Bs), 0, 10, ()), ()) else some ((s, 0, 0, ()), ())) = some (trip (encAv [x]), ()) := by
          intro s hs
          rw [he, ← hs]
          refine dq_step (fun h => ?_) (fun h => ?_)
          · rw [if_pos (by omega)]
          · rw [if_neg (by omega)]
        rw [if_neg (by simp), ifn (by simp), show [x][0]? = some x from rfl]
        simp only [Option.bind_some]
        rw [rqput_is g, Option.bind_some]
        dsimp only
        unfold rqPut
        cases h1 : rqB x with
        | true =>
          simp only [if_true]
          rw [ifnt]
          exact fin _ (by unfold avPut; rw [if_pos h1])
        | false =>
          rw [iff_, ifnf, rpput_is g, Option.bind_some]
          dsimp only
          unfold rpPut
          cases h2 : rpB x with
          | true =>
            simp only [if_true]
            rw [ifnt]
            exact fin _ (by unfold avPut; rw [if_neg (show ¬ rqB x = true by rw [h1]; simp), if_pos h2])
          | false =>
            rw [iff_, ifnf, reput2_is g, Option.bind_some]
            have h3 : reB x = true := by unfold avB at hx; rw [h1, h2] at hx; simpa using hx
            refine fin _ ?_
            unfold rePut avPut
            rw [if_pos h3, if_neg (show ¬ rqB x = true by rw [h1]; simp), if_neg (show ¬ rpB x = true by rw [h2]; simp), if_pos h3]
    | succ d ih =>
      intro m i hd hm hb
      obtain ⟨m, rfl⟩ : ∃ k, m = k + 1 := ⟨m - 1, by omega⟩
      have hi : i < l.length := by omega
      rw [List.drop_eq_getElem_cons hi, badP] at hb
      rw [L_aodv_Encode_0_eq, ifd (by omega), if_pos (by omega), Int.toNat_natCast, bind_at hi, avright_is (g _ (List.getElem_mem hi)), Option.bind_some]
      dsimp only
      cases ho : avB l[i] with
      | true =>
        rw [if_pos ho] at hb
        have := ih m (i + 1) (by omega) (by omega) hb
        rw [ifnt, w64 (by omega) (by omega)]
        exact this
      | false =>
        rw [if_neg (by rw [ho]; simp)] at hb
        rw [ifnf]
        unfold encAv; rw [hb]
  exact main l.length fuel 0 (by omega) (fuel_ge (by omega)) rfl
end Go.VP
set_option linter.unusedVariables false
set_option linter.unusedSimpArgs false
set_option maxRecDepth 100000
namespace Go.VP
open Go Go.VI
theorem drop_step {b x r : Bs} {p n : Nat} (h : b.drop p = x ++ r) (hx : x.length = n) : b.drop (p + n) = r ∧ cut_ b p (n : Int) = x := by
  rw [cut_dropN, h, ← List.drop_drop, h]
  exact ⟨List.drop_left' hx, List.take_left' hx⟩
theorem glue4 (b : Bs) (p : Nat) : cut_ b p 4 ++ b.drop (p + 4) = b.drop p := by
  have := cut_dropN b p 4
  rw [show ((4 : Nat) : Int) = 4 from rfl] at this
  rw [this, ← List.drop_drop, List.take_append_drop]
theorem cut4_len {b : Bs} {p : Nat} (h : p + 4 ≤ b.length) : (cut_ b p 4).length = 4 := by
  have := cut_length (s := b) (p := p) (n := 4) (by omega) (by omega) (by omega)
  omega
theorem num4 {b : Bs} {p : Nat} (h : p + 4 ≤ b.length) : W32 (num (cut_ b p 4)) := by
  have := num_rng (cut_ b p 4)
  rw [cut4_len h] at this
  exact ⟨this.1, by have := this.2; omega⟩
theorem be_num4 {b : Bs} {p : Nat} (h : p + 4 ≤ b.length) : be 4 (num (cut_ b p 4)) = cut_ b p 4 := be_num 4 _ (cut4_len h)
theorem num_be4v {n : Int} (h : W32 n) : num (be 4 n) = n := num_be 4 n h.1 (by have := h.2; omega)
theorem bt_u8 {c : Int} (h : 0 ≤ c ∧ c < 256) : ((u8of c).toNat : Int) = c := by rw [u8of_int]; omega
theorem bare_eq {m x : Msg} (h : bareB m = true) (hx : bareOf m = some x) : m = x := by
  unfold bareB at h
  rw [hx] at h
  exact (eqB_true.1 h).symm
theorem bare_of {m : Msg} (h : bareOf m = some m) : bareB m = true := by
  unfold bareB; rw [h]; exact eqB_refl m
theorem RqR.is {m : Msg} (h : RqR m) : m = S_api_Msg.mk 3 0 0 [] 0 0 [] 0 0 [] 0 [] m.seq m.seq2 0 m.flags m.hops m.nonce 0 m.addr m.orig [] 0 [] m.subs := by
  have hk := h.kind
  have := bare_eq h.bare (by unfold bareOf; rw [if_neg (by omega), if_neg (by omega), if_pos hk])
  rw [hk] at this
  exact this
theorem rq_back {m : Msg} (h : RqR m) : rqGet (rqBytes m) = (m, 0, 0) ∧ bt (rqBytes m) 0 = 1 := by
  have b4 : ∀ n, (be 4 n).length = 4 := be_length 4
  have hf := h.flags
  have hh := h.hops
  have hae := allE_iff.1 h.subs
  obtain ⟨d1, c1⟩ := drop_step (b := rqBytes m) (p := 4) (n := 4) (x := be 4 m.nonce) rfl (b4 _)
  obtain ⟨d2, c2⟩ := drop_step d1 h.addr
  obtain ⟨d3, c3⟩ := drop_step d2 (b4 _)
  obtain ⟨d4, c4⟩ := drop_step d3 h.orig
  obtain ⟨d5, c5⟩ := drop_step d4 (b4 _)
  have hlen := congrArg List.length d5
  rw [List.length_drop] at hlen
  have hL : 24 ≤ (rqBytes m).length := by unfold rqBytes; simp only [List.length_append, List.length_cons, List.length_nil, b4, h.addr, h.orig]; omega
  have e1 : bt (rqBytes m) 1 = 8 * m.flags := bt_u8 (by omega)
  have e2 : bt (rqBytes m) 2 = 0 := rfl
  have e3 : bt (rqBytes m) 3 = m.hops := bt_u8 hh
  refine ⟨?_, rfl⟩
  unfold rqGet
  rw [if_neg (by omega), e1, e2, if_neg (by omega)]
  unfold tailE
  rw [show (4 + 4 + 4 + 4 + 4 + 4 : Nat) = 24 from rfl] at d5
  rw [d5, getE_back hae, if_neg (show ¬ (0 : Int) ≠ 0 by decide)]
  unfold rqMsg
  rw [d5, getE_back hae, e1, e3]
  have c1 : cut_ (rqBytes m) 4 4 = _ := c1
  have c2 : cut_ (rqBytes m) 8 4 = _ := c2
  have c3 : cut_ (rqBytes m) 12 4 = _ := c3
  have c4 : cut_ (rqBytes m) 16 4 = _ := c4
  have c5 : cut_ (rqBytes m) 20 4 = _ := c5
  rw [c1, c2, c3, c4, c5, num_be4v h.nonce, num_be4v h.seq, num_be4v h.seq2, show 8 * m.flags / 8 = m.flags by omega]
  rw [← h.is]
theorem head4 {b : Bs} (h : ¬ b.length < 4) : [u8of (bt b 0), u8of (bt b 1), u8of (bt b 2), u8of (bt b 3)] ++ b.drop 4 = b := by
  obtain ⟨w, x, y, z, r, rfl⟩ := four_of h
  show [u8of (w.toNat : Int), u8of (x.toNat : Int), u8of (y.toNat : Int), u8of (z.toNat : Int)] ++ r = _
  rw [u8of_nat, u8of_nat, u8of_nat, u8of_nat]; rfl
theorem tailE_ok {b : Bs} {p : Nat} {m : Msg} (h : (tailE b p m).2.2 = 0) : tailE b p m = (m, 0, 0) ∧ AllE (getE (b.drop p)).1 ∧ encS (getE (b.drop p)).1 = b.drop p ∧ 2 * (getE (b.drop p)).1.length ≤ b.length := by
  unfold tailE at h ⊢
  by_cases q : (getE (b.drop p)).2.2 ≠ 0
  · rw [if_pos q] at h; exact absurd h q
  · rw [if_neg q]
    obtain ⟨_, k1, k2, k3⟩ := getE_ok (Classical.byContradiction q)
    rw [List.length_drop] at k3
    exact ⟨rfl, k1, k2, by omega⟩
theorem rq_again {b : Bs} (h0 : bt b 0 = 1) (h : (rqGet b).2.2 = 0) : rqGet b = (rqMsg b, 0, 0) ∧ RqR (rqMsg b) ∧ rqBytes (rqMsg b) = b ∧ (rqMsg b).subs.length ≤ b.length := by
  unfold rqGet at h ⊢
  by_cases h1 : b.length < 24
  · rw [if_pos h1] at h; cases h
  by_cases h2 : ¬ (bt b 1 % 8 = 0 ∧ bt b 2 = 0)
  · rw [if_neg h1, if_pos h2] at h; cases h
  rw [if_neg h1, if_neg h2] at h ⊢
  obtain ⟨k1, k2, k3, k4⟩ := tailE_ok h
  have h2 := Classical.byContradiction h2
  have hx := bt_rng b 1
  have hz := bt_rng b 3
  refine ⟨k1, ⟨rfl, bare_of rfl, by show 0 ≤ bt b 1 / 8 ∧ bt b 1 / 8 ≤ 31; omega, cut4_len (p := 8) (by omega), cut4_len (p := 16) (by omega), num4 (p := 4) (by omega), num4 (p := 12) (by omega), num4 (p := 20) (by omega), hz, allE_iff.2 k2⟩, ?_, by show (getE (b.drop 24)).1.length ≤ _; omega⟩
  show [1, u8of (8 * (bt b 1 / 8)), 0, u8of (bt b 3)] ++ (be 4 (num (cut_ b (4 : Nat) 4)) ++ (cut_ b (8 : Nat) 4 ++ (be 4 (num (cut_ b (12 : Nat) 4)) ++ (cut_ b (16 : Nat) 4 ++ (be 4 (num (cut_ b (20 : Nat) 4)) ++ encS (getE (b.drop 24)).1))))) = b
  rw [k3, be_num4 (by omega), be_num4 (by omega), be_num4 (by omega), glue4 b 20, glue4 b 16, glue4 b 12, glue4 b 8, glue4 b 4, show 8 * (bt b 1 / 8) = bt b 1 by omega]
  have := head4 (b := b) (by omega)
  rw [h0, h2.2] at this
  exact this
theorem RpR.is {m : Msg} (h : RpR m) : m = S_api_Msg.mk 4 0 0 [] 0 0 [] m.plen 0 [] 0 [] m.seq 0 m.interval m.flags m.hops 0 0 m.addr m.orig [] 0 [] m.subs := by
  have hk := h.kind
  have := bare_eq h.bare (by unfold bareOf; rw [if_neg (by omega), if_neg (by omega), if_neg (by omega), if_pos hk])
  rw [hk] at this
  exact this
theorem AkR.is {m : Msg} (h : AkR m) : m = S_api_Msg.mk 6 0 0 [] 0 0 [] 0 0 [] 0 [] 0 0 0 0 0 0 0 [] [] [] 0 [] m.subs := by
  have hk := h.kind
  have := bare_eq h.bare (by unfold bareOf; rw [if_neg (by omega), if_neg (by omega), if_neg (by omega), if_neg (by omega), if_neg (by omega), if_pos hk])
  rw [hk] at this
  exact this
theorem rp_back {m : Msg} (h : RpR m) : rpGet (rpBytes m) = (m, 0, 0) ∧ bt (rpBytes m) 0 = 2 := by
  have b4 : ∀ n, (be 4 n).length = 4 := be_length 4
  have hf := h.flags
  have hh := h.hops
  have hp := h.plen
  have hae := allE_iff.1 h.subs
  obtain ⟨d1, c1⟩ := drop_step (b := rpBytes m) (p := 4) (n := 4) (x := m.addr) rfl h.addr
  obtain ⟨d2, c2⟩ := drop_step d1 (b4 _)
  obtain ⟨d3, c3⟩ := drop_step d2 h.orig
  obtain ⟨d4, c4⟩ := drop_step d3 (b4 _)
  have hL : 20 ≤ (rpBytes m).length := by unfold rpBytes; simp only [List.length_append, List.length_cons, List.length_nil, b4, h.addr, h.orig]; omega
  have e0 : bt (rpBytes m) 0 = 2 := rfl
  have e1 : bt (rpBytes m) 1 = 64 * m.flags := bt_u8 (by omega)
  have e2 : bt (rpBytes m) 2 = m.plen := bt_u8 (by omega)
  have e3 : bt (rpBytes m) 3 = m.hops := bt_u8 hh
  refine ⟨?_, rfl⟩
  unfold rpGet
  rw [e0, if_neg (by decide), if_neg (by omega), e1, e2, if_neg (by omega)]
  unfold tailE
  rw [show (4 + 4 + 4 + 4 + 4 : Nat) = 20 from rfl] at d4
  rw [d4, getE_back hae, if_neg (show ¬ (0 : Int) ≠ 0 by decide)]
  unfold rpMsg
  rw [d4, getE_back hae, e1, e2, e3]
  have c1 : cut_ (rpBytes m) 4 4 = _ := c1
  have c2 : cut_ (rpBytes m) 8 4 = _ := c2
  have c3 : cut_ (rpBytes m) 12 4 = _ := c3
  have c4 : cut_ (rpBytes m) 16 4 = _ := c4
  rw [c1, c2, c3, c4, num_be4v h.seq, num_be4v h.life, show 64 * m.flags / 64 = m.flags by omega]
  rw [← h.is]
theorem ak_back {m : Msg} (h : AkR m) : rpGet (akBytes m) = (m, 0, 0) ∧ bt (akBytes m) 0 = 4 := by
  have hae := allE_iff.1 h.subs
  have d : (akBytes m).drop 2 = encS m.subs := rfl
  have e0 : bt (akBytes m) 0 = 4 := rfl
  have e1 : bt (akBytes m) 1 = 0 := rfl
  refine ⟨?_, rfl⟩
  unfold rpGet
  rw [e0, if_pos rfl, if_neg (by unfold akBytes; simp), e1, if_neg (by decide)]
  unfold tailE
  rw [d, getE_back hae, if_neg (show ¬ (0 : Int) ≠ 0 by decide)]
  unfold akMsg
  rw [d, getE_back hae]
  rw [← h.is]
theorem rp_again {b : Bs} (h4 : ¬ bt b 0 = 4) (h0 : bt b 0 = 2) (h : (rpGet b).2.2 = 0) : rpGet b = (rpMsg b, 0, 0) ∧ RpR (rpMsg b) ∧ rpBytes (rpMsg b) = b ∧ (rpMsg b).subs.length ≤ b.length := by
  unfold rpGet at h ⊢
  rw [if_neg h4] at h ⊢
  by_cases h1 : b.length < 20
  · rw [if_pos h1] at h; cases h
  by_cases h2 : ¬ (bt b 1 % 64 = 0 ∧ bt b 2 < 32)
  · rw [if_neg h1, if_pos h2] at h; cases h
  rw [if_neg h1, if_neg h2] at h ⊢
  obtain ⟨k1, k2, k3, k4⟩ := tailE_ok h
  have h2 := Classical.byContradiction h2
  have hx := bt_rng b 1
  have hy := bt_rng b 2
  have hz := bt_rng b 3
  refine ⟨k1, ⟨rfl, bare_of rfl, by show 0 ≤ bt b 1 / 64 ∧ bt b 1 / 64 ≤ 3; omega, by show 0 ≤ bt b 2 ∧ bt b 2 ≤ 31; omega, cut4_len (p := 4) (by omega), cut4_len (p := 12) (by omega), num4 (p := 8) (by omega), num4 (p := 16) (by omega), hz, allE_iff.2 k2⟩, ?_, by show (getE (b.drop 20)).1.length ≤ _; omega⟩
  show [2, u8of (64 * (bt b 1 / 64)), u8of (bt b 2), u8of (bt b 3)] ++ (cut_ b (4 : Nat) 4 ++ (be 4 (num (cut_ b (8 : Nat) 4)) ++ (cut_ b (12 : Nat) 4 ++ (be 4 (num (cut_ b (16 : Nat) 4)) ++ encS (getE (b.drop 20)).1)))) = b
  rw [k3, be_num4 (by omega), be_num4 (by omega), glue4 b 16, glue4 b 12, glue4 b 8, glue4 b 4, show 64 * (bt b 1 / 64) = bt b 1 by omega]
  have := head4 (b := b) (by omega)
  rw [h0] at this
  exact this
theorem ak_again {b : Bs} (hb : 1 ≤ b.length) (h0 : bt b 0 = 4) (h : (rpGet b).2.2 = 0) : rpGet b = (akMsg b, 0, 0) ∧ AkR (akMsg b) ∧ akBytes (akMsg b) = b ∧ (akMsg b).subs.length ≤ b.length := by
  unfold rpGet at h ⊢
  rw [if_pos h0] at h ⊢
  by_cases h1 : b.length < 2
  · rw [if_pos h1] at h; cases h
  by_cases h2 : ¬ bt b 1 = 0
  · rw [if_neg h1, if_pos h2] at h; cases h
  rw [if_neg h1, if_neg h2] at h ⊢
  obtain ⟨k1, k2, k3, k4⟩ := tailE_ok h
  have h2 := Classical.byContradiction h2
  refine ⟨k1, ⟨rfl, bare_of rfl, allE_iff.2 k2⟩, ?_, by show (getE (b.drop 2)).1.length ≤ _; omega⟩
  show [4, 0] ++ encS (getE (b.drop 2)).1 = b
  rw [k3]
  match b, h1, h0, h2 with
  | w :: x :: r, _, h0, h2 =>
    have e0 : w = 4 := u8_eq (a := w) (b := 4) h0
    have e1 : x = 0 := u8_eq (a := x) (b := 0) h2
    rw [e0, e1]; rfl
  | [], h1, _, _ => simp at h1
  | [_], h1, _, _ => simp at h1
theorem ReR.is {m : Msg} (h : ReR m) : m = S_api_Msg.mk 5 0 0 [] 0 0 [] 0 0 [] 0 [] 0 0 0 m.flags 0 0 0 [] [] m.list 0 [] m.subs := by
  have hk := h.kind
  have := bare_eq h.bare (by unfold bareOf; rw [if_neg (by omega), if_neg (by omega), if_neg (by omega), if_neg (by omega), if_pos hk])
  rw [hk] at this
  exact this
theorem destG_back {b : Bs} : ∀ (l : List Dest) (p : Nat) (r : Bs), (∀ d ∈ l, destB d = true) → b.drop p = dests l ++ r → destG b l.length p = l ∧ b.drop (p + 8 * l.length) = r
  | [], p, r, _, h => ⟨rfl, h⟩
  | d :: l, p, r, hl, h => by
    obtain ⟨h1, h2⟩ := destB_ok (hl d (List.mem_cons_self ..))
    unfold dests at h
    rw [List.append_assoc, List.append_assoc] at h
    obtain ⟨d1, c1⟩ := drop_step h h1
    obtain ⟨d2, c2⟩ := drop_step d1 (be_length 4 _)
    obtain ⟨k1, k2⟩ := destG_back l (p + 4 + 4) r (fun x hx => hl x (List.mem_cons_of_mem _ hx)) d2
    have c1 : cut_ b p 4 = d.addr := c1
    have c2 : cut_ b ((p : Int) + 4) 4 = be 4 d.seq := c2
    refine ⟨?_, by rw [← k2]; congr 1; simp; omega⟩
    rw [List.length_cons, destG, c1, c2, num_be4v h2, k1]
theorem re_back {m : Msg} (h : ReR m) : reGet (reBytes m) = (m, 0, 0) ∧ bt (reBytes m) 0 = 3 := by
  have hf := h.flags
  have hl := h.len
  have hae := allE_iff.1 h.subs
  have e1 : bt (reBytes m) 1 = 128 * m.flags := bt_u8 (by omega)
  have e2 : bt (reBytes m) 2 = 0 := rfl
  have e3 : bt (reBytes m) 3 = m.list.length := bt_u8 (by omega)
  obtain ⟨k1, k2⟩ := destG_back (b := reBytes m) m.list 4 (encS m.subs) (List.all_eq_true.1 h.list) rfl
  have hdl : ∀ l : List Dest, (∀ d ∈ l, destB d = true) → (dests l).length = 8 * l.length := fun l => by
    induction l with
    | nil => intro _; rfl
    | cons d l ih =>
      intro hh
      have := (destB_ok (hh d (List.mem_cons_self ..))).1
      unfold dests
      rw [List.length_append, List.length_append, ih (fun x hx => hh x (List.mem_cons_of_mem _ hx)), this, be_length, List.length_cons]
      omega
  have hL : (reBytes m).length = 4 + 8 * m.list.length + (encS m.subs).length := by
    unfold reBytes
    rw [List.length_append, List.length_append, hdl _ (List.all_eq_true.1 h.list)]
    simp only [List.length_cons, List.length_nil]; omega
  refine ⟨?_, rfl⟩
  unfold reGet
  rw [if_neg (by omega), e1, e2, if_neg (by omega), e3, if_neg (by omega), Int.toNat_natCast, if_neg (by omega)]
  unfold tailE
  rw [k2, getE_back hae, if_neg (show ¬ (0 : Int) ≠ 0 by decide)]
  unfold reMsg
  rw [e1, e3, Int.toNat_natCast, k1, k2, getE_back hae, show 128 * m.flags / 128 = m.flags by omega]
  rw [← h.is]
theorem destG_len (b : Bs) : ∀ (k p : Nat), (destG b k p).length = k
  | 0, _ => rfl
  | k + 1, p => by rw [destG, List.length_cons, destG_len b k]
theorem destG_again {b : Bs} : ∀ (k p : Nat), p + 8 * k ≤ b.length → (∀ d ∈ destG b k p, destB d = true) ∧ dests (destG b k p) ++ b.drop (p + 8 * k) = b.drop p
  | 0, p, _ => ⟨(fun d hd => by cases hd), rfl⟩
  | k + 1, p, h => by
    obtain ⟨h1, h2⟩ := destG_again (b := b) k (p + 8) (by omega)
    have e : ((p : Int) + 4) = ((p + 4 : Nat) : Int) := by omega
    refine ⟨fun d hd => ?_, ?_⟩
    · rw [destG] at hd
      rcases List.mem_cons.1 hd with rfl | hd
      · unfold destB
        rw [Bool.and_eq_true, decide_eq_true_eq, fitsB4, e]
        exact ⟨cut4_len (by omega), num4 (by omega)⟩
      · exact h1 d hd
    · rw [destG, dests, e, be_num4 (by omega), List.append_assoc, List.append_assoc, show p + 8 * (k + 1) = p + 8 + 8 * k by omega, h2]
      show cut_ b p 4 ++ (cut_ b ((p + 4 : Nat) : Int) 4 ++ b.drop (p + 4 + 4)) = _
      rw [glue4, glue4]
theorem re_again {b : Bs} (h0 : bt b 0 = 3) (h : (reGet b).2.2 = 0) : reGet b = (reMsg b, 0, 0) ∧ ReR (reMsg b) ∧ reBytes (reMsg b) = b ∧ (reMsg b).subs.length ≤ b.length := by
  unfold reGet at h ⊢
  by_cases h1 : b.length < 4
  · rw [if_pos h1] at h; cases h
  by_cases h2 : ¬ (bt b 1 % 128 = 0 ∧ bt b 2 = 0)
  · rw [if_neg h1, if_pos h2] at h; cases h
  by_cases h3 : bt b 3 = 0
  · rw [if_neg h1, if_neg h2, if_pos h3] at h; cases h
  by_cases h4 : b.length < 4 + 8 * (bt b 3).toNat
  · rw [if_neg h1, if_neg h2, if_neg h3, if_pos h4] at h; cases h
  rw [if_neg h1, if_neg h2, if_neg h3, if_neg h4] at h ⊢
  obtain ⟨k1, k2, k3, k4⟩ := tailE_ok h
  have h2 := Classical.byContradiction h2
  have hx := bt_rng b 1
  have hz := bt_rng b 3
  obtain ⟨g1, g2⟩ := destG_again (b := b) (bt b 3).toNat 4 (by omega)
  have hlen := destG_len b (bt b 3).toNat 4
  refine ⟨k1, ⟨rfl, bare_of rfl, by show bt b 1 / 128 = 0 ∨ bt b 1 / 128 = 1; omega, by show 1 ≤ (destG b (bt b 3).toNat 4).length ∧ (destG b (bt b 3).toNat 4).length ≤ 255; omega, List.all_eq_true.2 g1, allE_iff.2 k2⟩, ?_, by show (getE (b.drop (4 + 8 * (bt b 3).toNat))).1.length ≤ _; omega⟩
  show [3, u8of (128 * (bt b 1 / 128)), 0, u8of ((destG b (bt b 3).toNat 4).length : Int)] ++ (dests (destG b (bt b 3).toNat 4) ++ encS (getE (b.drop (4 + 8 * (bt b 3).toNat))).1) = b
  rw [k3, g2, hlen, show 128 * (bt b 1 / 128) = bt b 1 by omega, show (((bt b 3).toNat : Nat) : Int) = bt b 3 by omega]
  have := head4 (b := b) (by omega)
  rw [h0, h2.2] at this
  exact this
end Go.VP
set_option linter.unusedVariables false
set_option linter.unusedSimpArgs false
set_option maxRecDepth 100000
namespace Go.VP
open Go Go.VI
theorem avB_cases {m : Msg} (h : avB m = true) : RqR m ∨ RpR m ∨ AkR m ∨ ReR m := by
  unfold avB at h
  simp only [Bool.or_eq_true, rqB_iff, rpB_iff, reB_iff] at h
  rcases h with h | (h | h) | h
  · exact .inl h
  · exact .inr (.inl h)
  · exact .inr (.inr (.inl h))
  · exact .inr (.inr (.inr h))
theorem avB_of {m : Msg} (h : RqR m ∨ RpR m ∨ AkR m ∨ ReR m) : avB m = true := by
  unfold avB
  simp only [Bool.or_eq_true, rqB_iff, rpB_iff, reB_iff]
  rcases h with h | h | h | h
  · exact .inl h
  · exact .inr (.inl (.inl h))
  · exact .inr (.inl (.inr h))
  · exact .inr (.inr h)
theorem put_rq {m : Msg} (h : RqR m) : avPut m = rqBytes m := by unfold avPut; rw [if_pos (rqB_iff.2 h)]
theorem put_rp {m : Msg} (h : RpR m) : avPut m = rpBytes m := by
  have := h.kind
  unfold avPut; rw [if_neg (fun q => by have := (rqB_iff.1 q).kind; omega), if_pos (rpB_iff.2 (.inl h)), if_neg (by omega)]
theorem put_ak {m : Msg} (h : AkR m) : avPut m = akBytes m := by
  have := h.kind
  unfold avPut; rw [if_neg (fun q => by have := (rqB_iff.1 q).kind; omega), if_pos (rpB_iff.2 (.inr h)), if_pos (by omega)]
theorem put_re {m : Msg} (h : ReR m) : avPut m = reBytes m := by
  have := h.kind
  unfold avPut; rw [if_neg (fun q => by have := (rqB_iff.1 q).kind; omega), if_neg (fun q => by rcases rpB_iff.1 q with q | q <;> (have := q.kind; omega)), if_pos (reB_iff.2 h)]
theorem av_one {m : Msg} (h : avB m = true) : avGet (avPut m) = (m, 0, 0) ∧ 1 ≤ bt (avPut m) 0 ∧ bt (avPut m) 0 ≤ 4 ∧ (avPut m).length ≠ 0 := by
  have ne : ∀ b : Bs, 1 ≤ bt b 0 → b.length ≠ 0 := fun b hb q => by
    have : b = [] := List.eq_nil_of_length_eq_zero q
    subst this
    have : bt [] 0 = 0 := rfl
    omega
  unfold avGet
  rcases avB_cases h with h | h | h | h
  · obtain ⟨k1, k2⟩ := rq_back h
    rw [put_rq h, k2, if_pos rfl]
    exact ⟨k1, by omega, by omega, ne _ (by omega)⟩
  · obtain ⟨k1, k2⟩ := rp_back h
    rw [put_rp h, k2, if_neg (by decide), if_neg (by decide)]
    exact ⟨k1, by omega, by omega, ne _ (by omega)⟩
  · obtain ⟨k1, k2⟩ := ak_back h
    rw [put_ak h, k2, if_neg (by decide), if_neg (by decide)]
    exact ⟨k1, by omega, by omega, ne _ (by omega)⟩
  · obtain ⟨k1, k2⟩ := re_back h
    rw [put_re h, k2, if_neg (by decide), if_pos rfl]
    exact ⟨k1, by omega, by omega, ne _ (by omega)⟩
theorem encAv_one {m : Msg} (h : avB m = true) : encAv [m] = if 65535 < (avPut m).length then ([], 0, 10) else (avPut m, 0, 0) := by
  unfold encAv
  rw [badP_ok (fun x hx => by rw [List.mem_singleton.1 hx]; exact h)]
theorem av_right {l : List Msg} (h : (encAv l).2.2 = 0) : ∃ m, l = [m] ∧ avB m = true ∧ encAv l = (avPut m, 0, 0) ∧ (avPut m).length ≤ 65535 := by
  have h0 := h
  unfold encAv at h0
  split at h0
  · cases h0
  · rename_i hb
    have hok := badP_none hb
    split at h0
    · cases h0
    · rename_i m
      have hm := hok m (by simp)
      rw [encAv_one hm] at h ⊢
      by_cases q : 65535 < (avPut m).length
      · rw [if_pos q] at h; cases h
      · rw [if_neg q]; exact ⟨m, rfl, hm, rfl, by omega⟩
    · cases h0
theorem av_back {l : List Msg} (h : (encAv l).2.2 = 0) : parseAv (encAv l).1 = (l, 0, 0) ∧ (encAv l).1.length ≤ 65535 := by
  obtain ⟨m, rfl, hm, he, hl⟩ := av_right h
  rw [he]
  obtain ⟨k1, k2, k3, k4⟩ := av_one hm
  refine ⟨?_, hl⟩
  dsimp only
  unfold parseAv
  rw [if_neg (by omega), if_neg k4, if_neg (by omega), k1, if_neg (show ¬ (0 : Int) ≠ 0 by decide)]
theorem av_again {b : Bs} (h : (parseAv b).2.2 = 0) : ∃ m, parseAv b = ([m], 0, 0) ∧ avB m = true ∧ avPut m = b ∧ encAv [m] = (b, 0, 0) ∧ b.length ≤ 65535 ∧ m.subs.length ≤ b.length := by
  unfold parseAv at h ⊢
  by_cases h1 : 65535 < b.length
  · rw [if_pos h1] at h; cases h
  by_cases h2 : b.length = 0
  · rw [if_neg h1, if_pos h2] at h; cases h
  by_cases h3 : bt b 0 < 1 ∨ 4 < bt b 0
  · rw [if_neg h1, if_neg h2, if_pos h3] at h; cases h
  by_cases h4 : (avGet b).2.2 ≠ 0
  · rw [if_neg h1, if_neg h2, if_neg h3, if_pos h4] at h; exact absurd h h4
  rw [if_neg h1, if_neg h2, if_neg h3, if_neg h4]
  have h4 := Classical.byContradiction h4
  have fin : ∀ m, avGet b = (m, 0, 0) → avB m = true → avPut m = b → m.subs.length ≤ b.length → ∃ m', ([(avGet b).1], (0 : Int), (0 : Int)) = ([m'], 0, 0) ∧ avB m' = true ∧ avPut m' = b ∧ encAv [m'] = (b, 0, 0) ∧ b.length ≤ 65535 ∧ m'.subs.length ≤ b.length := fun m e hm hp hs => by
    refine ⟨m, by rw [e], hm, hp, ?_, by omega, hs⟩
    rw [encAv_one hm, hp, if_neg h1]
  by_cases c1 : bt b 0 = 1
  · have e : avGet b = rqGet b := by unfold avGet; rw [if_pos c1]
    rw [e] at h4 fin ⊢
    obtain ⟨k1, k2, k3, k4⟩ := rq_again c1 h4
    exact fin _ k1 (avB_of (.inl k2)) (by rw [put_rq k2, k3]) k4
  by_cases c3 : bt b 0 = 3
  · have e : avGet b = reGet b := by unfold avGet; rw [if_neg c1, if_pos c3]
    rw [e] at h4 fin ⊢
    obtain ⟨k1, k2, k3, k4⟩ := re_again c3 h4
    exact fin _ k1 (avB_of (.inr (.inr (.inr k2)))) (by rw [put_re k2, k3]) k4
  have e : avGet b = rpGet b := by unfold avGet; rw [if_neg c1, if_neg c3]
  rw [e] at h4 fin ⊢
  by_cases c4 : bt b 0 = 4
  · obtain ⟨k1, k2, k3, k4⟩ := ak_again (by omega) c4 h4
    exact fin _ k1 (avB_of (.inr (.inr (.inl k2)))) (by rw [put_ak k2, k3]) k4
  · obtain ⟨k1, k2, k3, k4⟩ := rp_again c4 (by have := bt_rng b 0; omega) h4
    exact fin _ k1 (avB_of (.inr (.inl k2))) (by rw [put_rp k2, k3]) k4
theorem AllE.fewS {l : List Sub} (h : AllE l) (hl : l.length ≤ 1000000) : FewS l := ⟨by omega, fun y hy => by have := (h y hy).2.2; omega⟩
theorem avB_good {m : Msg} (h : avB m = true) (hs : m.subs.length ≤ 1000000) : GoodV m := by
  have z : IntKind.has .i64 0 := has64.2 (by omega)
  have w8 : ∀ {n : Int}, W8 n → IntKind.has .i64 n := fun h => has64.2 (by have := h.1; have := h.2; omega)
  rcases avB_cases h with h | h | h | h
  · have hl : m.list = [] := congrArg S_api_Msg.list h.is
    have hi : m.interval = 0 := congrArg S_api_Msg.interval h.is
    exact ⟨h.nonce.has, h.seq.has, h.seq2.has, w8 h.hops, by rw [hi]; exact z, by rw [hl]; simp, by rw [hl]; intro d hd; (cases hd), (allE_iff.1 h.subs).fewS hs, hs⟩
  · have hl : m.list = [] := congrArg S_api_Msg.list h.is
    have h1 : m.nonce = 0 := congrArg S_api_Msg.nonce h.is
    have h2 : m.seq2 = 0 := congrArg S_api_Msg.seq2 h.is
    exact ⟨by rw [h1]; exact z, h.seq.has, by rw [h2]; exact z, w8 h.hops, h.life.has, by rw [hl]; simp, by rw [hl]; intro d hd; (cases hd), (allE_iff.1 h.subs).fewS hs, hs⟩
  · have hl : m.list = [] := congrArg S_api_Msg.list h.is
    have h1 : m.nonce = 0 := congrArg S_api_Msg.nonce h.is
    have h2 : m.seq2 = 0 := congrArg S_api_Msg.seq2 h.is
    have h3 : m.seq = 0 := congrArg S_api_Msg.seq h.is
    have h4 : m.hops = 0 := congrArg S_api_Msg.hops h.is
    have h5 : m.interval = 0 := congrArg S_api_Msg.interval h.is
    exact ⟨by rw [h1]; exact z, by rw [h3]; exact z, by rw [h2]; exact z, by rw [h4]; exact z, by rw [h5]; exact z, by rw [hl]; simp, by rw [hl]; intro d hd; (cases hd), (allE_iff.1 h.subs).fewS hs, hs⟩
  · have h1 : m.nonce = 0 := congrArg S_api_Msg.nonce h.is
    have h2 : m.seq2 = 0 := congrArg S_api_Msg.seq2 h.is
    have h3 : m.seq = 0 := congrArg S_api_Msg.seq h.is
    have h4 : m.hops = 0 := congrArg S_api_Msg.hops h.is
    have h5 : m.interval = 0 := congrArg S_api_Msg.interval h.is
    exact ⟨by rw [h1]; exact z, by rw [h3]; exact z, by rw [h2]; exact z, by rw [h4]; exact z, by rw [h5]; exact z, by have := h.len; omega, fun d hd => (destB_ok (List.all_eq_true.1 h.list d hd)).2.has, (allE_iff.1 h.subs).fewS hs, hs⟩
end Go.VP
set_option linter.unusedVariables false
set_option linter.unusedSimpArgs false
set_option maxRecDepth 100000
namespace Go.VP
open Go Go.VI
structure GoodQ (m : Msg) : Prop where
  rip : RM m
  ng : GoodG m
  av : GoodV m
  lean : GoodL m
theorem goodQ {m : Msg} (g : Good_api_Msg m) (h : Few m) : GoodQ m := by
  have hl := h.lite
  have g0 := g
  obtain ⟨g1, g2, g3, g4, g5, g6, g7, g8, g9, g10, g11, g12, g13, g14, g15, g16, g17, g18, g19, g20, g21, g22, g23, _⟩ := g
  have h1 := hl.list
  have h2 := hl.subs
  exact ⟨goodRM g0 h, ⟨g9, g8, g2, by omega, by omega⟩, ⟨g18, g13, g14, g17, g15, by omega, fun d hd => (g22.2 d hd).2.1, hl.fewS, by omega⟩, goodL g0 hl⟩
open Classical in
noncomputable def rightP (p : Int) (m : Msg) : Bool := if p = 1 then rightR m else if p = 2 then ngB m else if p = 3 then avB m else if p = 4 then leanB m else false
end Go.VP
set_option linter.unusedVariables false
set_option linter.unusedSimpArgs false
set_option maxRecDepth 100000
namespace Go.VP
open Go Go.VI
noncomputable def parseP (p : Int) (b : Bs) : List Msg × Int × Int := if p = 1 then parseR b else if p = 2 then parseN b else if p = 3 then parseAv b else if p = 4 then parseI b else ([], 0, 1)
noncomputable def encP (p : Int) (l : List Msg) : Bs × Int × Int := if p = 1 then encR l else if p = 2 then encNg l else if p = 3 then encAv l else if p = 4 then encO l else ([], 0, 1)
def GoodP (p : Int) (m : Msg) : Prop := (p = 1 → RM m) ∧ (p = 2 → GoodG m) ∧ (p = 3 → GoodV m) ∧ (p = 4 → GoodL m)
theorem GoodQ.p {m : Msg} (g : GoodQ m) (p : Int) : GoodP p m := ⟨fun _ => g.rip, fun _ => g.ng, fun _ => g.av, fun _ => g.lean⟩
theorem sright_p {p : Int} {m : Msg} (g : GoodP p m) : g_suite_Right (p, m, ()) = some ((rightP p m, ()), ()) := by
  rw [g_suite_Right_eq]
  unfold rightP
  refine bq_step (fun h => by rw [if_pos h, ripRight_is (g.1 h)]; rfl) (fun h1 => ?_)
  rw [if_neg h1]
  refine bq_step (fun h => by rw [if_pos h, ngright_is (g.2.1 h)]; rfl) (fun h2 => ?_)
  rw [if_neg h2]
  refine bq_step (fun h => by rw [if_pos h, avright_is (g.2.2.1 h)]; rfl) (fun h3 => ?_)
  rw [if_neg h3]
  refine bq_step (fun h => by rw [if_pos h, lright_is (g.2.2.2 h)]; rfl) (fun h4 => ?_)
  rw [if_neg h4]
theorem senc_is {p : Int} {l : List Msg} (g : ∀ m ∈ l, GoodP p m) (hl : l.length ≤ 100000) (h1 : p = 1 → l.length ≤ 1000) : g_suite_Encode (p, l, ()) = some (trip (encP p l), ()) := by
  rw [g_suite_Encode_eq]
  unfold encP
  refine bq_step (fun h => by rw [if_pos h, enc_is (fun m hm => (g m hm).1 h) (h1 h)]; rfl) (fun h1 => ?_)
  rw [if_neg h1]
  refine bq_step (fun h => by rw [if_pos h, ngenc_is (fun m hm => (g m hm).2.1 h) (by omega)]; rfl) (fun h2 => ?_)
  rw [if_neg h2]
  refine bq_step (fun h => by rw [if_pos h, avenc_is (fun m hm => (g m hm).2.2.1 h) (by omega)]; rfl) (fun h3 => ?_)
  rw [if_neg h3]
  refine bq_step (fun h => by rw [if_pos h, oenc_is hl (fun m hm => (g m hm).2.2.2 h)]; rfl) (fun h4 => ?_)
  rw [if_neg h4]
theorem enc_back2 {l : List Msg} (h : (encR l).2.2 = 0) : parseR (encR l).1 = (l, 0, 0) ∧ (encR l).1.length ≤ 504 := by
  unfold encR at h ⊢
  cases hb : badR l 0 with
  | some i => rw [hb] at h; simp at h
  | none =>
    rw [hb] at h
    have hok := badR_none hb
    cases l with
    | nil => simp at h
    | cons f r =>
      dsimp only at h ⊢
      have hmo : ((0 : Nat) : Int) ≤ mostR f := by unfold mostR; split <;> omega
      obtain ⟨h1, h2⟩ := encGo_ok (f :: r) 0 _ hmo h
      rw [enc_good (f :: r) 0 _ (by simpa using h1) h2]
      have ht : ∀ m ∈ r, togP f m := fun m hm => by
        obtain ⟨j, hj, e⟩ := List.mem_iff_getElem.1 hm
        have := h2 (j + 1) (by simpa using hj) (by omega)
        rw [List.getElem_cons_succ, e] at this
        exact this
      have hmo2 : (((f :: r).length : Nat) : Int) ≤ mostR f := by simpa using h1
      refine ⟨parse_back hok ht (fun c => ?_) hmo2, ?_⟩
      · cases r with
        | nil => rfl
        | cons x _ => exact absurd c (ht x (by simp)).2.2.2.2
      · have hfl := flat_len hok
        have hhl := headE_length (hok f (by simp))
        dsimp only
        rw [List.length_append, hfl]
        unfold mostR at hmo2
        by_cases ha : f.auth = []
        · rw [if_pos ha] at hmo2 hhl; omega
        · rw [if_neg ha] at hmo2 hhl; omega
theorem p_back {p : Int} {l : List Msg} (h : (encP p l).2.2 = 0) : parseP p (encP p l).1 = (l, 0, 0) ∧ (encP p l).1.length ≤ 65535 := by
  unfold encP at h ⊢
  unfold parseP
  by_cases h1 : p = 1
  · simp only [if_pos h1] at h ⊢
    have := enc_back2 h
    exact ⟨this.1, by omega⟩
  simp only [if_neg h1] at h ⊢
  by_cases h2 : p = 2
  · simp only [if_pos h2] at h ⊢; exact ng_back h
  simp only [if_neg h2] at h ⊢
  by_cases h3 : p = 3
  · simp only [if_pos h3] at h ⊢; exact av_back h
  simp only [if_neg h3] at h ⊢
  by_cases h4 : p = 4
  · simp only [if_pos h4] at h ⊢
    obtain ⟨hB, s, d, k1, k2, k3, k4, k5⟩ := encO_ok h
    have hp := parse_out k4 k2
    rw [k3] at k5 ⊢
    exact ⟨hp, by dsimp only at k5 ⊢; omega⟩
  · simp only [if_neg h4] at h; cases h
theorem ngR_good {m : Msg} (h : NgR m) : GoodG m ∧ Small m := by
  have hl : m.list = [] := congrArg S_api_Msg.list h.is
  have hs : m.subs = [] := congrArg S_api_Msg.subs h.is
  have := h.tag
  have := h.plen
  have := h.cmd
  exact ⟨⟨has64.2 (by omega), has64.2 (by omega), has64.2 (by omega), by rw [hl]; simp, by rw [hs]; simp⟩, by rw [hl]; simp, by rw [hs]; simp⟩
theorem rm_parse2 {b : Bs} : ∀ m ∈ (parseR b).1, okR m → RM m := fun m hm ho => by
  have hs := parseR_all (b := b) (P := fun m => m.list.length ≤ 1000000000 ∧ m.subs.length ≤ 1000000000) (fun c v s e => by simp [routeM]) m hm
  obtain ⟨_, _, _, _, _, _, _, h⟩ := ho
  exact ⟨has64.2 (by omega), has64.2 (by omega), hs.1, hs.2⟩
theorem p_parsed {p : Int} {b : Bs} (hb : b.length ≤ 100000) (h : (parseP p b).2.2 = 0) : (parseP p b).2.1 = 0 ∧ (∀ m ∈ (parseP p b).1, rightP p m = true ∧ GoodP p m ∧ Small m) ∧ (parseP p b).1.length ≤ 65535 ∧ (p = 1 → (parseP p b).1.length ≤ 1000) := by
  unfold parseP at h ⊢
  unfold rightP GoodP
  by_cases h1 : p = 1
  · simp only [if_pos h1] at h ⊢
    obtain ⟨r, r1, r2, r3, r4, r5⟩ := parse_good h
    have hrm := rm_parse2 (b := b)
    rw [r1] at hrm ⊢
    exact ⟨rfl, fun m hm => ⟨rightR_true.2 (r4 m hm), ⟨fun _ => hrm m hm (r4 m hm), fun q => by omega, fun q => by omega, fun q => by omega⟩, (hrm m hm (r4 m hm)).list, (hrm m hm (r4 m hm)).subs⟩, by dsimp only; omega, fun _ => by dsimp only; omega⟩
  simp only [if_neg h1] at h ⊢
  by_cases h2 : p = 2
  · simp only [if_pos h2] at h ⊢
    obtain ⟨k0, k1, k2, k3, _, _⟩ := ng_again h
    exact ⟨k0, fun m hm => ⟨ngR_iff.2 (k1 m hm), ⟨fun q => by omega, fun _ => (ngR_good (k1 m hm)).1, fun q => by omega, fun q => by omega⟩, (ngR_good (k1 m hm)).2⟩, by omega, fun q => absurd q h1⟩
  simp only [if_neg h2] at h ⊢
  by_cases h3 : p = 3
  · simp only [if_pos h3] at h ⊢
    obtain ⟨m, k1, k2, k3, k4, k5, k6⟩ := av_again h
    rw [k1]
    have hg := avB_good k2 (by omega)
    exact ⟨rfl, fun x hx => by rw [List.mem_singleton.1 hx]; exact ⟨k2, ⟨fun q => by omega, fun q => by omega, fun _ => hg, fun q => by omega⟩, by have := hg.list; omega, by have := hg.subs1; omega⟩, by simp, fun q => absurd q h1⟩
  simp only [if_neg h3] at h ⊢
  by_cases h4 : p = 4
  · simp only [if_pos h4] at h ⊢
    obtain ⟨k1, k2⟩ := parseI_right b
    refine ⟨?_, fun m hm => ⟨leanR_iff.2 (k1 m hm).1, ⟨fun q => by omega, fun q => by omega, fun q => by omega, fun _ => (k1 m hm).2⟩, (k1 m hm).2.small⟩, k2, fun q => absurd q h1⟩
    rcases parseI_cases b with ⟨q, _⟩ | ⟨l, _, _, _, _, q⟩
    · exact absurd h q
    · rw [q]
  · simp only [if_neg h4] at h; cases h
end Go.VP
set_option linter.unusedVariables false
set_option linter.unusedSimpArgs false
set_option maxRecDepth 100000
namespace Go.VP
open Go Go.VI
noncomputable def fitsP (p most : Int) (l : List Msg) : Bool := decide ((encP p l).2.2 = 0 ∧ ((encP p l).1.length : Int) ≤ most)
theorem dat_is {p most : Int} {l : List Msg} (g : ∀ m ∈ l, GoodP p m) (hl : l.length ≤ 1000) : g_pack_datagram (p, l, most, ()) = some (((encP p l).1, fitsP p most l, ()), ()) := by
  rw [g_pack_datagram_eq, senc_is g (by omega) (fun _ => hl), Option.bind_some]
  unfold fitsP
  refine bq_step (fun q => ?_) (fun q => ?_)
  · by_cases h : ((encP p l).1.length : Int) ≤ most
    · rw [decide_eq_true (show (encP p l).2.2 = 0 ∧ _ from ⟨q, h⟩)]; dsimp only [trip]; rw [decide_eq_true h]
    · rw [decide_eq_false (show ¬ ((encP p l).2.2 = 0 ∧ _) from fun c => h c.2)]; dsimp only [trip]; rw [decide_eq_false h]
  · rw [decide_eq_false (show ¬ ((encP p l).2.2 = 0 ∧ _) from fun c => q c.1)]
theorem pfits_is {p most : Int} {l : List Msg} (g : ∀ m ∈ l, GoodP p m) (hl : l.length ≤ 1000) : g_pack_Fits (p, l, most, ()) = some ((fitsP p most l, ()), ()) := by
  rw [g_pack_Fits_eq, dat_is g hl]; rfl
noncomputable def cnt (p most : Int) (l : List Msg) : Nat → Nat → Nat
  | 0, n => n
  | k + 1, n => if fitsP p most (l.take (n + 1)) = true then cnt p most l k (n + 1) else n
noncomputable def cntP (p most : Int) (l : List Msg) : Nat := cnt p most l l.length 0
theorem cnt_rng {p most : Int} {l : List Msg} : ∀ (k n : Nat), n ≤ cnt p most l k n ∧ cnt p most l k n ≤ n + k
  | 0, n => ⟨Nat.le_refl _, Nat.le_refl _⟩
  | k + 1, n => by
    unfold cnt
    split
    · have := cnt_rng (p := p) (most := most) (l := l) k (n + 1); omega
    · omega
noncomputable def chunks (p most : Int) : Nat → List Msg → List (List Msg)
  | 0, _ => []
  | k + 1, l => if l = [] then [] else l.take (cntP p most l) :: chunks p most k (l.drop (cntP p most l))
noncomputable def packD (p most : Int) (l : List Msg) : List Bs := (chunks p most l.length l).map fun c => (encP p c).1
noncomputable def lastD (p : Int) (l : List Msg) (n : Nat) : Bs := if n = 0 then [] else (encP p (l.take n)).1
theorem strBo : bo_string ≤ 100000 := Nat.le_of_ble_eq_true (by kernel_rfl)
theorem pack1_loop {n m0 : Nat} {p most : Int} {l : List Msg} {acc : List Bs} (hl : l.length ≤ 1000) (ha : acc.length ≤ 1000) (g : ∀ m ∈ l, GoodP p m) : ∀ (d k i : Nat), i + d = l.length → d < k →
    L_pack_Pack_1 n m0 k p l most acc (lastD p l i) i = L_pack_Pack_0 n m0 p most (l.drop (cnt p most l d i)) (acc ++ [lastD p l (cnt p most l d i)]) := by
  have fin : ∀ (i : Nat), i ≤ l.length → (if roomB ((acc.length + [lastD p l i].length) * bo_string) = true then (if 0 ≤ (i : Int) ∧ (i : Int) ≤ (l.length : Int) then (L_pack_Pack_0 n m0 p most (l.drop (i : Int).toNat) (acc ++ [lastD p l i])) else none) else none) = L_pack_Pack_0 n m0 p most (l.drop i) (acc ++ [lastD p l i]) := fun i hi => by
    rw [if_pos (roomB_of (Nat.le_trans (Nat.mul_le_mul (show acc.length + [lastD p l i].length ≤ 1001 by simp; omega) strBo) (by decide))), if_pos (by omega), Int.toNat_natCast]
  intro d
  induction d with
  | zero =>
    intro k i h hk
    obtain ⟨k, rfl⟩ : ∃ j, k = j + 1 := ⟨k - 1, by omega⟩
    rw [L_pack_Pack_1_eq, ifn (by omega), cnt]
    exact fin i (by omega)
  | succ d ih =>
    intro k i h hk
    obtain ⟨k, rfl⟩ : ∃ j, k = j + 1 := ⟨k - 1, by omega⟩
    have hg : ∀ m ∈ l.take (i + 1), GoodP p m := fun m hm => g m (List.mem_of_mem_take hm)
    rw [L_pack_Pack_1_eq, ifd (by omega), w64 (x := (i : Int) + 1) (by omega) (by omega), if_pos (by omega), show ((i : Int) + 1).toNat = i + 1 by omega, dat_is hg (by rw [List.length_take]; omega), Option.bind_some, cnt]
    dsimp only
    cases hf : fitsP p most (l.take (i + 1)) with
    | false =>
      rw [ifnf, iff_]
      exact fin i (by omega)
    | true =>
      rw [ifnt, ift]
      have := ih k (i + 1) (by omega) (by omega)
      rw [show ((i + 1 : Nat) : Int) = (i : Int) + 1 by omega, show lastD p l (i + 1) = (encP p (l.take (i + 1))).1 by unfold lastD; rw [if_neg (by omega)]] at this
      exact this
theorem cntP_pos {p most : Int} {m : Msg} {r : List Msg} (h : fitsP p most [m] = true) : 1 ≤ cntP p most (m :: r) := by
  unfold cntP
  rw [List.length_cons, cnt]
  rw [if_pos (by simpa using h)]
  exact (cnt_rng _ _).1
theorem cntP_le {p most : Int} {l : List Msg} : cntP p most l ≤ l.length := by
  have := (cnt_rng (p := p) (most := most) (l := l) l.length 0).2
  unfold cntP; omega
theorem pack0_loop {n : Nat} {p most : Int} (hn : 2000 ≤ n) : ∀ (d k : Nat) (l : List Msg) (acc : List Bs), l.length ≤ d → d < k → l.length + acc.length ≤ 1000 → (∀ m ∈ l, GoodP p m ∧ fitsP p most [m] = true) →
    L_pack_Pack_0 n k p most l acc = some ((acc ++ (chunks p most d l).map (fun c => (encP p c).1), 0, 0, ()), ()) := by
  intro d
  induction d with
  | zero =>
    intro k l acc hd hk hl g
    obtain ⟨k, rfl⟩ : ∃ j, k = j + 1 := ⟨k - 1, by omega⟩
    rw [L_pack_Pack_0_eq, ifn (by omega)]
    simp [chunks]
  | succ d ih =>
    intro k l acc hd hk hl g
    obtain ⟨k, rfl⟩ : ∃ j, k = j + 1 := ⟨k - 1, by omega⟩
    rw [L_pack_Pack_0_eq]
    cases l with
    | nil => rw [ifn (by simp)]; simp [chunks]
    | cons m r =>
      have h1 := cntP_pos (r := r) (g m (by simp)).2
      have h2 := cntP_le (p := p) (most := most) (l := m :: r)
      have := pack1_loop (n := n) (m0 := k) (most := most) (acc := acc) (l := m :: r) (by simp at hl ⊢; omega) (by omega) (fun x hx => (g x hx).1) (m :: r).length n 0 (by omega) (by simp at hl ⊢; omega)
      rw [show lastD p (m :: r) 0 = [] from rfl, show ((0 : Nat) : Int) = 0 from rfl, show cnt p most (m :: r) (m :: r).length 0 = cntP p most (m :: r) from rfl] at this
      rw [ifd (by simp only [List.length_cons]; omega), this, ih k _ _ (by rw [List.length_drop]; simp at hd h2 ⊢; omega) (by omega) (by rw [List.length_drop, List.length_append]; simp at hl h2 ⊢; omega) (fun x hx => g x (List.mem_of_mem_drop hx))]
      have hc : chunks p most (d + 1) (m :: r) = (m :: r).take (cntP p most (m :: r)) :: chunks p most d ((m :: r).drop (cntP p most (m :: r))) := by rw [chunks, if_neg (by simp)]
      rw [hc, List.map_cons, List.append_assoc]
      have hld : lastD p (m :: r) (cntP p most (m :: r)) = (encP p ((m :: r).take (cntP p most (m :: r)))).1 := by unfold lastD; rw [if_neg (by omega)]
      rw [hld]; rfl
theorem one_at {l : List Msg} {i : Nat} (h : i < l.length) : (l.take (i + 1)).drop i = [l[i]] := by
  rw [List.take_succ_eq_append_getElem h, List.drop_left' (by rw [List.length_take]; omega)]
noncomputable def checkP (p most : Int) (l : List Msg) : Int × Int :=
  if p < 1 ∨ 4 < p then (0, 1) else match badP (rightP p) l 0 with
    | some i => ((i : Int), 1)
    | none => match badP (fun m => fitsP p most [m]) l 0 with
      | some i => ((i : Int), 11)
      | none => (0, 0)
theorem check1_loop {n : Nat} {p most : Int} {l : List Msg} (hl : l.length ≤ 1000) (g : ∀ m ∈ l, GoodP p m) : ∀ (d k i : Nat), i + d = l.length → d < k →
    L_pack_check_1 n k p l most i = some ((match badP (fun m => fitsP p most [m]) (l.drop i) i with | some j => (((j : Nat) : Int), 11, ()) | none => (0, 0, ())), ()) := by
  intro d
  induction d with
  | zero =>
    intro k i h hk
    obtain ⟨k, rfl⟩ : ∃ j, k = j + 1 := ⟨k - 1, by omega⟩
    rw [L_pack_check_1_eq, ifn (by omega), List.drop_eq_nil_of_le (by omega)]; rfl
  | succ d ih =>
    intro k i h hk
    obtain ⟨k, rfl⟩ : ∃ j, k = j + 1 := ⟨k - 1, by omega⟩
    have hi : i < l.length := by omega
    have := ih k (i + 1) (by omega) (by omega)
    rw [show ((i + 1 : Nat) : Int) = (i : Int) + 1 by omega] at this
    rw [L_pack_check_1_eq, ifd (by omega), w64 (x := (i : Int) + 1) (by omega) (by omega), if_pos (by omega), show ((i : Int) + 1).toNat = i + 1 by omega, Int.toNat_natCast, one_at hi, pfits_is (fun m hm => by rw [List.mem_singleton.1 hm]; exact g _ (List.getElem_mem hi)) (by simp), Option.bind_some, List.drop_eq_getElem_cons hi, badP]
    dsimp only
    cases hf : fitsP p most [l[i]] with
    | false => rw [ifnf, iff_]
    | true => rw [ifnt, ift]; exact this
theorem check_is {p most : Int} {l : List Msg} (hl : l.length ≤ 1000) (g : ∀ m ∈ l, GoodP p m) : g_pack_check (p, l, most, ()) = some (((checkP p most l).1, (checkP p most l).2, ()), ()) := by
  show h_pack_check fuel _ = _
  rw [h_pack_check_eq]
  unfold checkP
  refine dq_step (fun h => by rw [if_pos (Or.inl h)]) (fun h1 => ?_)
  refine dq_step (fun h => by rw [if_pos (Or.inr h)]) (fun h2 => ?_)
  rw [if_neg (show ¬ (p < 1 ∨ 4 < p) by omega)]
  have main : ∀ (d k i : Nat), i + d = l.length → d < k → L_pack_check_0 fuel k p l most i = some ((match badP (rightP p) (l.drop i) i with | some j => (((j : Nat) : Int), 1, ()) | none => (match badP (fun m => fitsP p most [m]) l 0 with | some j => (((j : Nat) : Int), 11, ()) | none => (0, 0, ()))), ()) := by
    intro d
    induction d with
    | zero =>
      intro k i h hk
      obtain ⟨k, rfl⟩ : ∃ j, k = j + 1 := ⟨k - 1, by omega⟩
      have := check1_loop (n := fuel) (most := most) hl g l.length fuel 0 (by omega) (fuel_ge (by omega))
      rw [List.drop_zero, show ((0 : Nat) : Int) = 0 from rfl] at this
      rw [L_pack_check_0_eq, ifn (by omega), List.drop_eq_nil_of_le (by omega), this]; rfl
    | succ d ih =>
      intro k i h hk
      obtain ⟨k, rfl⟩ : ∃ j, k = j + 1 := ⟨k - 1, by omega⟩
      have hi : i < l.length := by omega
      have := ih k (i + 1) (by omega) (by omega)
      rw [show ((i + 1 : Nat) : Int) = (i : Int) + 1 by omega] at this
      rw [L_pack_check_0_eq, ifd (by omega), if_pos (by omega), Int.toNat_natCast, bind_at hi, sright_p (g _ (List.getElem_mem hi)), Option.bind_some, w64 (by omega) (by omega), List.drop_eq_getElem_cons hi, badP]
      dsimp only
      cases hf : rightP p l[i] with
      | false => rw [ifnf, iff_]
      | true => rw [ifnt, ift]; exact this
  have := main l.length fuel 0 (by omega) (fuel_ge (by omega))
  rw [List.drop_zero, show ((0 : Nat) : Int) = 0 from rfl] at this
  rw [this]
  cases badP (rightP p) l 0 with
  | some i => rfl
  | none => cases badP (fun m => fitsP p most [m]) l 0 <;> rfl
noncomputable def packP (p most : Int) (l : List Msg) : List Bs × Int × Int := if (checkP p most l).2 ≠ 0 then ([], checkP p most l) else (packD p most l, 0, 0)
theorem checkP_ok {p most : Int} {l : List Msg} (h : (checkP p most l).2 = 0) : 1 ≤ p ∧ p ≤ 4 ∧ (∀ m ∈ l, rightP p m = true ∧ fitsP p most [m] = true) := by
  unfold checkP at h
  split at h
  · cases h
  · rename_i hp
    split at h
    · cases h
    · rename_i h1
      split at h
      · cases h
      · rename_i h2
        exact ⟨by omega, by omega, fun m hm => ⟨badP_none h1 m hm, badP_none h2 m hm⟩⟩
theorem pack_is {p most : Int} {l : List Msg} (hl : l.length ≤ 1000) (g : ∀ m ∈ l, GoodP p m) : g_pack_Pack (p, l, most, ()) = some (trip (packP p most l), ()) := by
  show h_pack_Pack fuel _ = _
  rw [h_pack_Pack_eq, check_is hl g, Option.bind_some]
  unfold packP
  refine ne_step (fun q => by rw [if_pos q]) (fun q => ?_)
  rw [if_neg (show ¬ (checkP p most l).2 ≠ 0 from fun c => c q)]
  have hc := (checkP_ok (show (checkP p most l).2 = 0 from q)).2.2
  rw [pack0_loop (n := fuel) (Nat.le_of_lt (fuel_ge (by omega))) l.length fuel l [] (Nat.le_refl _) (fuel_ge (by omega)) (by simp; omega) (fun m hm => ⟨g m hm, (hc m hm).2⟩)]
  rfl
end Go.VP
set_option linter.unusedVariables false
set_option linter.unusedSimpArgs false
set_option maxRecDepth 100000
namespace Go.VP
open Go Go.VI
theorem kind4 {x : Int} (h : 0 ≤ x ∧ x ≤ 255) : 1 ≤ IntKind.wrap .i64 (1 + IntKind.wrap .i64 (x.tmod 4)) ∧ IntKind.wrap .i64 (1 + IntKind.wrap .i64 (x.tmod 4)) ≤ 4 := by
  rw [Int.tmod_eq_emod_of_nonneg h.1, w64 (x := x % 4) (by omega) (by omega), w64 (by omega) (by omega)]; omega
end Go.VP
set_option linter.unusedVariables false
set_option linter.unusedSimpArgs false
set_option maxRecDepth 100000
namespace Go.VP
open Go Go.VI
theorem encS_le : ∀ {l : List Sub} {k : Nat}, (∀ y ∈ l, y.data.length ≤ k) → (encS l).length ≤ (k + 2) * l.length
  | [], k, _ => by simp [encS]
  | y :: l, k, h => by
    have h1 := h y (List.mem_cons_self ..)
    have h2 := encS_le (l := l) (k := k) (fun x hx => h x (List.mem_cons_of_mem _ hx))
    have e1 := encS_length (y :: l)
    have e2 := encS_length l
    rw [List.length_cons, Nat.mul_add, Nat.mul_one]
    simp only [sumN] at e1
    omega
theorem dests_le : ∀ {l : List Dest}, l.all destB = true → (dests l).length = 8 * l.length
  | [], _ => rfl
  | d :: l, h => by
    rw [List.all_cons, Bool.and_eq_true] at h
    have h1 : d.addr.length = 4 := by
      have := h.1
      unfold destB at this
      rw [Bool.and_eq_true] at this
      exact of_decide_eq_true this.1
    have h2 := dests_le h.2
    rw [dests, List.length_append, List.length_append, h1, be_length, h2, List.length_cons]; omega
theorem avPut_le {m : Msg} (h : avB m = true) (hf : Few m) : (avPut m).length ≤ 30000 := by
  have hs := encS_le (l := m.subs) (k := 300) hf.ss
  have h60 := hf.subs
  have hs : (encS m.subs).length ≤ 18200 := Nat.le_trans hs (Nat.le_trans (Nat.mul_le_mul_left 302 h60) (by decide))
  unfold avB at h
  by_cases h1 : rqB m = true
  · have q := rqB_iff.1 h1
    have a1 := q.addr
    have a2 := q.orig
    rw [put_rq q]; unfold rqBytes
    simp only [List.length_append, be_length, List.length_cons, List.length_nil]; omega
  · by_cases h2 : rpB m = true
    · unfold avPut
      rw [if_neg h1, if_pos h2]
      split
      · unfold akBytes; simp only [List.length_append, List.length_cons, List.length_nil]; omega
      · have q : m.addr.length ≤ 200 ∧ m.orig.length ≤ 200 := by have := hf.ao; omega
        unfold rpBytes
        simp only [List.length_append, be_length, List.length_cons, List.length_nil]; omega
    · rw [b_no h1, b_no h2, Bool.false_or, Bool.false_or] at h
      have q := reB_iff.1 h
      have a1 := q.len
      have a2 := dests_le q.list
      rw [put_re q]; unfold reBytes
      simp only [List.length_append, List.length_cons, List.length_nil]; omega
theorem p_one {p : Int} {m : Msg} (h : rightP p m = true) (hf : Few m) : (encP p [m]).2.2 = 0 := by
  unfold rightP at h
  unfold encP
  by_cases h1 : p = 1
  · simp only [if_pos h1] at h ⊢
    have ho := rightR_true.1 h
    unfold encR
    have hb : badR [m] 0 = none := by unfold badR; rw [if_pos ho]; rfl
    rw [hb]
    dsimp only
    rw [enc_good [m] 0 _ (by unfold mostR; simp; split <;> omega) (fun j hj h0 => by simp at hj; omega)]
  simp only [if_neg h1] at h ⊢
  by_cases h2 : p = 2
  · simp only [if_pos h2] at h ⊢
    have ho := ngR_iff.1 h
    rw [ng_is (r := []) (fun x hx => by rw [List.mem_singleton.1 hx]; exact ho), encN_fine (fun x hx => by rw [List.mem_singleton.1 hx]) ?_]
    have := lineN_len (nx := z16) ho
    rw [linesN, linesN, List.append_nil, List.length_append, this]
    simp only [List.length_cons, List.length_nil]
    split <;> omega
  simp only [if_neg h2] at h ⊢
  by_cases h3 : p = 3
  · simp only [if_pos h3] at h ⊢
    have := avPut_le h hf
    rw [encAv_one h, if_neg (by omega)]
  simp only [if_neg h3] at h ⊢
  by_cases h4 : p = 4
  · simp only [if_pos h4] at h ⊢
    have ho := leanR_iff.1 h
    have he : (putL c0 m).2.2 = 0 := by
      unfold putL
      rw [if_neg (by rw [h]; simp)]
      split
      · rfl
      · rw [if_neg (fun q => q.2.2 (by unfold nextC; split <;> rfl))]
    have hs := putL_short ho he
    have hp := plainL_small m
    rw [encO_of (l := [m]) (s := (putL c0 m).1) (d := (putL c0 m).2.1) (fun x hx => by rw [List.mem_singleton.1 hx]; exact h) (by rw [outS, if_neg (by rw [he]; simp), outS]; simp) (by omega)]
  · simp only [if_neg h4] at h; cases h
theorem lines_app : ∀ {a b : List Msg} {nx : Bs}, (linesN nx a).length ≤ (linesN nx (a ++ b)).length
  | [], b, nx => by rw [linesN]; exact Nat.zero_le _
  | m :: r, b, nx => by
    have := lines_app (a := r) (b := b) (nx := m.next)
    rw [List.cons_append, linesN, linesN, List.length_append, List.length_append]; omega
theorem p_take {p : Int} {l : List Msg} {n : Nat} (h : (encP p l).2.2 = 0) (hn : 1 ≤ n) : (encP p (l.take n)).2.2 = 0 ∧ (encP p (l.take n)).1.length ≤ (encP p l).1.length := by
  obtain ⟨n, rfl⟩ : ∃ k, n = k + 1 := ⟨n - 1, by omega⟩
  unfold encP at h ⊢
  by_cases h1 : p = 1
  · simp only [if_pos h1] at h ⊢
    unfold encR at h ⊢
    cases hb : badR l 0 with
    | some i => rw [hb] at h; simp at h
    | none =>
      rw [hb] at h
      have hok := badR_none hb
      cases l with
      | nil => simp at h
      | cons f r =>
        dsimp only at h ⊢
        have hmo : ((0 : Nat) : Int) ≤ mostR f := by unfold mostR; split <;> omega
        obtain ⟨e1, e2⟩ := encGo_ok (f :: r) 0 _ hmo h
        have hb2 : badR ((f :: r).take (n + 1)) 0 = none := badR_ok (fun m hm => hok m (List.mem_of_mem_take hm))
        rw [hb2, enc_good (f :: r) 0 _ (by simpa using e1) e2, List.take_succ_cons]
        dsimp only
        have e3 : ∀ (j : Nat) (hj : j < (f :: r.take n).length), 0 < 0 + j → togP f (f :: r.take n)[j] := fun j hj h0 => by
          have hj' : j < (f :: r).length := by simp only [List.length_cons, List.length_take] at hj ⊢; omega
          have := e2 j hj' h0
          have e : (f :: r.take n)[j] = (f :: r)[j] := by
            cases j with
            | zero => rfl
            | succ j => simp only [List.getElem_cons_succ]; exact List.getElem_take
          rw [e]; exact this
        have e4 : ((0 + (f :: r.take n).length : Nat) : Int) ≤ mostR f := by simp only [List.length_cons, List.length_take] at e1 ⊢; omega
        rw [enc_good (f :: r.take n) 0 _ e4 e3]
        refine ⟨rfl, ?_⟩
        dsimp only
        have e5 : (f :: r).flatMap lineF = (f :: r.take n).flatMap lineF ++ (r.drop n).flatMap lineF := by
          rw [← List.flatMap_append, List.cons_append, List.take_append_drop]
        rw [e5]
        simp only [List.length_append]; omega
  simp only [if_neg h1] at h ⊢
  by_cases h2 : p = 2
  · simp only [if_pos h2] at h ⊢
    obtain ⟨k1, k2⟩ := ng_right h
    cases l with
    | nil => exact absurd rfl k2
    | cons f r =>
      rw [ng_is k1] at h ⊢
      obtain ⟨e1, e2, e3⟩ := encN_ok h
      have e3 := e3 (by simp)
      rw [e2, List.take_succ_cons, ng_is (r := r.take n) (fun x hx => k1 x (by rw [← List.take_succ_cons] at hx; exact List.mem_of_mem_take hx))]
      have hle := lines_app (a := f :: r.take n) (b := r.drop n) (nx := z16)
      rw [List.cons_append, List.take_append_drop] at hle
      rw [List.length_append] at e3
      rw [encN_fine (fun x hx => e1 x (by rw [← List.take_succ_cons] at hx; exact List.mem_of_mem_take hx)) (by rw [List.length_append]; omega)]
      refine ⟨rfl, ?_⟩
      dsimp only
      rw [List.length_append, List.length_append]; omega
  simp only [if_neg h2] at h ⊢
  by_cases h3 : p = 3
  · simp only [if_pos h3] at h ⊢
    obtain ⟨m, rfl, _⟩ := av_right h
    rw [show ([m] : List Msg).take (n + 1) = [m] by simp]
    exact ⟨h, Nat.le_refl _⟩
  simp only [if_neg h3] at h ⊢
  by_cases h4 : p = 4
  · simp only [if_pos h4] at h ⊢
    obtain ⟨hB, s, d, q1, q2, q3, q4, q5⟩ := encO_ok h
    rw [← List.take_append_drop (n + 1) l] at q1
    obtain ⟨s1, d1, s2, r1, r2, r3⟩ := outS_app q1
    have hs1 : (s1.length : Int) ≤ 65531 := by rw [r3, List.length_append] at q2; omega
    rw [encO_of (l := l.take (n + 1)) (fun m hm => hB m (List.mem_of_mem_take hm)) r1 hs1]
    refine ⟨rfl, ?_⟩
    have hw := (body_wrap (s := s1) (t := []) (by omega) (by simp; omega)).2.2.1
    dsimp only
    rw [hw, q5, r3, List.length_append]; omega
  · simp only [if_neg h4] at h; cases h
theorem p_all {p : Int} {l : List Msg} (h : (encP p l).2.2 = 0) : ∀ m ∈ l, rightP p m = true := fun m hm => by
  obtain ⟨k1, k2⟩ := p_back h
  have := (p_parsed (p := p) (b := (encP p l).1) (by omega) (by rw [k1])).2.1 m (by rw [k1]; exact hm)
  exact this.1
end Go.VP
set_option linter.unusedVariables false
set_option linter.unusedSimpArgs false
set_option maxRecDepth 100000
namespace Go.VP
open Go Go.VI
theorem awakeT : g_top_awake () = some ((true, ()), ()) := by kernel_rfl
theorem awbT {α : Type} (f : (Bool × Unit) × Unit → Option α) : (g_top_awake ()).bind f = f ((true, ()), ()) := by rw [awakeT]; rfl
end Go.VP
