import Derived.Test.YtjgnpggpgkkknaaXW
import Derived.Deep.Slices
import Derived.Carry
import Derived.SizedLaws
import Derived.WideShapes
import Derived.DataReads
import Derived.OpenShut
/-! What a law's argument reads as, by its type, as the kinds have it: whole numbers, bools, strings, structs, slices, arrays, nested. -/
namespace Go.Proofs.YtjgnpggpgkkknaaW.PrintWords
open Go.RowKit

/-- A value of type t that can be read is one of kind k; good: what is known of it. -/
def Opens {α : Type} (P : Program) (t : TypeId) (k : Kd α) (good : α → Prop) : Prop :=
  P.cellsOf t = k.sz ∧ ∀ (H : Type) (enc : TypeId × Value → H) (w : World) (spare : Nat → Bool) (held : Bool) (fuel : Nat) (cs : List Value) (d : DataW H) (ps : List MemPlace),
    DataW.trod enc P w 0 spare held fuel t cs = some (d, ps) → (∀ n ∈ d.weights P t, n ≤ reachBytes) → ∃ x, k.K w x cs ∧ good x

theorem Opens.int {P : Program} {t : TypeId} {k : IntKind} (ht : P.underlying t = some (.int k)) (hc : P.cellsOf t = 1) : Opens P t (Kd.int k) (fun x => (Lit.int k x).wf = true) :=
  ⟨hc, fun H enc w spare held fuel cs d ps h _ => by
    obtain ⟨n, rfl, _, hw⟩ := DataW.trod_int ht h
    exact ⟨n, rfl, hw⟩⟩

theorem Opens.bool {P : Program} {t : TypeId} (ht : P.underlying t = some .bool) (hc : P.cellsOf t = 1) : Opens P t Kd.bool (fun _ => True) :=
  ⟨hc, fun H enc w spare held fuel cs d ps h _ => by
    obtain ⟨b, rfl, _⟩ := DataW.trod_bool ht h
    exact ⟨b, rfl, trivial⟩⟩

theorem Opens.str {P : Program} {t : TypeId} (ht : P.underlying t = some .string) (hc : P.cellsOf t = 1) : Opens P t Kd.string (fun x => x.size ≤ 140737488351232) :=
  ⟨hc, fun H enc w spare held fuel cs d ps h hs => by
    obtain ⟨s, rfl, hx, _⟩ := DataW.trod_string ht h
    injection hx with hd _
    subst hd
    have := hs s.data.toList.length (by simp [DataW.weights])
    rw [Array.length_toList] at this
    exact ⟨s, rfl, this⟩⟩

theorem list_of_lt {α : Type} {p : Nat → α → Prop} (n : Nat) (h : ∀ i, i < n → ∃ x, p i x) : ∃ l : List α, l.length = n ∧ ∀ i x, l[i]? = some x → p i x := by
  induction n with
  | zero => exact ⟨[], rfl, fun i x h => by simp at h⟩
  | succ n ih =>
    obtain ⟨l, hl, hp⟩ := ih (fun i hi => h i (by omega))
    obtain ⟨x, hx⟩ := h n (by omega)
    refine ⟨l ++ [x], by simp [hl], fun i y hy => ?_⟩
    rcases Nat.lt_trichotomy i n with hi | hi | hi
    · exact hp i y (by rw [List.getElem?_append_left (by omega)] at hy; exact hy)
    · subst hi
      rw [List.getElem?_append_right (by omega), hl] at hy
      simp at hy
      subst hy
      exact hx
    · rw [List.getElem?_eq_none (by simp; omega)] at hy
      cases hy

theorem weights_mem_all {H : Type} {P : Program} {e : TypeId} : ∀ {ds : List (DataW H)} {j : Nat} {d : DataW H}, ds[j]? = some d → ∀ n ∈ d.weights P e, n ∈ DataW.weightsAll P e ds
  | d0 :: ds, 0, d, hd, n, hn => by
    simp only [List.getElem?_cons_zero, Option.some.injEq] at hd
    subst hd
    simp only [DataW.weightsAll, List.mem_append]
    exact Or.inl hn
  | d0 :: ds, j + 1, d, hd, n, hn => by
    simp only [List.getElem?_cons_succ] at hd
    simp only [DataW.weightsAll, List.mem_append]
    exact Or.inr (weights_mem_all hd n hn)
  | [], _, _, hd, _, _ => by simp at hd

theorem Opens.slice {α : Type} {P : Program} {t e : TypeId} {k : Kd α} {good : α → Prop} (ht : P.underlying t = some (.slice e)) (hc : P.cellsOf t = 1) {B : Nat} (hB : P.bytesOf e = B) (he : Opens P e k good) :
    Opens P t (Kd.slice e k) (fun l => l.length * B ≤ 140737488351232 ∧ ∀ x ∈ l, good x) :=
  ⟨hc, fun H enc w spare held fuel cs d ps h hs => by
    rcases Deep.open_slice ht h with ⟨rfl, hx⟩ | ⟨a, len, cap, m, n, D, Pl, rfl, _, hl, hm, _, hx, hel⟩
    · exact ⟨[], ⟨none, 0, rfl, Nat.le_refl _, Kd.C_nil k w⟩, by simp, fun x hx => by simp at hx⟩
    · injection hx with hd _
      subst hd
      have hlm : len ≤ m := by
        subst_vars
        split <;> omega
      obtain ⟨xs, hxl, hxp⟩ := list_of_lt (p := fun i x => ∃ cs', w.cells? 0 (a.add (i * P.cellsOf e)) (P.cellsOf e) = some cs' ∧ k.K w x cs' ∧ good x) len (fun i hi => by
        obtain ⟨cs', h1, h2⟩ := hel i (by omega)
        obtain ⟨x, h3, h4⟩ := he.2 H enc w spare held n cs' _ _ h2 (fun n hn => hs n (by
          simp only [DataW.weights, ht]
          refine List.mem_cons_of_mem _ (List.mem_append_left _ (weights_mem_all (j := i) ?_ n hn))
          simp [hi]))
        exact ⟨x, cs', h1, h3, h4⟩)
      refine ⟨xs, ⟨some a, cap, by rw [hxl], by omega, rfl, by rw [hxl]; unfold maxLen at hm; omega, fun _ => ⟨a, rfl, fun j p hp => ?_⟩⟩, ?_, fun x hx => ?_⟩
      · obtain ⟨cs', h1, h2, _⟩ := hxp j p hp
        refine ⟨cs', k.K_len h2, h2, fun i u hu => ?_⟩
        have hi : i < P.cellsOf e := by
          have := (List.getElem?_eq_some_iff.1 hu).1
          rw [k.K_len h2, ← he.1] at this
          exact this
        have := (World.cells?_some h1).2.2 i hi
        rw [hu, Deep.add_add, he.1] at this
        exact this
      · have := hs ((len + (m - len)) * P.bytesOf e) (by simp [DataW.weights, ht])
        rw [hB] at this
        have h5 : xs.length * B ≤ (len + (m - len)) * B := Nat.mul_le_mul_right _ (by omega)
        exact Nat.le_trans h5 this
      · obtain ⟨j, hj⟩ := List.mem_iff_getElem?.1 hx
        obtain ⟨_, _, _, h4⟩ := hxp j x hj
        exact h4⟩

/-- The fields of a struct from place i on, which begin at cell off. -/
def OpensF {α : Type} (P : Program) (fs : Array Field) (_i off : Nat) (k : Kd α) (good : α → Prop) : Prop :=
  ∀ (H : Type) (enc : TypeId × Value → H) (w : World) (spare : Nat → Bool) (held : Bool) (n : Nat) (cs : List Value) (xs : List (DataW H × List MemPlace)),
    (∀ (j : Nat) (f : Field), fs[j]? = some f → DataW.trod enc P w 0 spare held n f.type ((cs.drop f.offset).take (P.cellsOf f.type)) = xs[j]?) → xs.length = fs.size →
    (∀ (j : Nat) (f : Field) (y : DataW H × List MemPlace), fs[j]? = some f → xs[j]? = some y → ∀ m ∈ y.1.weights P f.type, m ≤ reachBytes) → ∃ x, k.K w x ((cs.drop off).take k.sz) ∧ good x

theorem OpensF.one {α : Type} {P : Program} {fs : Array Field} {i off : Nat} {k : Kd α} {good : α → Prop} (f : Field) (hf : fs[i]? = some f) (ho : f.offset = off) (h : Opens P f.type k good) : OpensF P fs i off k good := by
  intro H enc w spare held n cs xs hx hl hs
  have hi : i < fs.size := (Array.getElem?_eq_some_iff.1 hf).1
  have hy : xs[i]? = some xs[i] := List.getElem?_eq_getElem (by omega)
  have ht := hx i f hf
  rw [hy] at ht
  obtain ⟨x, h1, h2⟩ := h.2 H enc w spare held n _ _ _ ht (hs i f _ hf hy)
  rw [h.1, ho] at h1
  exact ⟨x, h1, h2⟩

theorem OpensF.cons {α β : Type} {P : Program} {fs : Array Field} {i off off2 : Nat} {a : Kd α} {b : Kd β} {ga : α → Prop} {gb : β → Prop} (f : Field) (hf : fs[i]? = some f) (ho : f.offset = off) (h : Opens P f.type a ga) (ho2 : off2 = off + a.sz)
    (hb : OpensF P fs (i + 1) off2 b gb) : OpensF P fs i off (Kd.pair a b) (fun x => ga x.1 ∧ gb x.2) := by
  intro H enc w spare held n cs xs hx hl hs
  obtain ⟨x, h1, h2⟩ := OpensF.one f hf ho h H enc w spare held n cs xs hx hl hs
  obtain ⟨y, h3, h4⟩ := hb H enc w spare held n cs xs hx hl hs
  refine ⟨(x, y), ⟨_, _, ?_, h1, h3⟩, h2, h4⟩
  show (cs.drop off).take (a.sz + b.sz) = _
  rw [List.take_add, List.drop_drop, ho2]

theorem Opens.struct {α β : Type} {P : Program} {t : TypeId} {fs : Array Field} {k : Kd α} {good : α → Prop} (f : β → α) (g : α → β) (hfg : ∀ x, f (g x) = x) (ht : P.underlying t = some (.struct fs)) (hc : P.cellsOf t = k.sz) (h : OpensF P fs 0 0 k good) :
    Opens P t (Kd.iso k f) (fun y => good (f y)) :=
  ⟨hc, fun H enc w spare held fuel cs d ps hd hs => by
    obtain ⟨xs, n, rfl, hx, hl, hxl, hel⟩ := DataW.trod_struct ht hd
    injection hx with hx1 _
    subst hx1
    obtain ⟨x, h1, h2⟩ := h H enc w spare held n cs xs hel hxl (fun j f y hf hy m hm => hs m (by
      simp only [DataW.weights, ht]
      refine DataW.weights_mem_each (j := j) (t := f.type) (d := y.1) ?_ ?_ m hm
      · simp only [List.getElem?_map, Array.getElem?_toList, hf, Option.map_some]
      · simp only [List.getElem?_map, hy, Option.map_some]))
    refine ⟨g x, ?_, (show good (f (g x)) by rw [hfg]; exact h2)⟩
    show k.K w (f (g x)) cs
    rw [hfg]
    have e : (cs.drop 0).take k.sz = cs := by
      rw [List.drop_zero]
      exact List.take_of_length_le (by omega)
    rw [e] at h1
    exact h1⟩

/-- The elements of an array from place i on: told as fields of one struct. -/
def OpensA {α : Type} (P : Program) (m i : Nat) (e : TypeId) (k : Kd α) (good : α → Prop) : Prop :=
  ∀ (H : Type) (enc : TypeId × Value → H) (w : World) (spare : Nat → Bool) (held : Bool) (n : Nat) (cs : List Value) (xs : List (DataW H × List MemPlace)),
    (∀ j, j < m → DataW.trod enc P w 0 spare held n e ((cs.drop (j * P.cellsOf e)).take (P.cellsOf e)) = xs[j]?) → xs.length = m →
    (∀ (j : Nat) (y : DataW H × List MemPlace), xs[j]? = some y → ∀ m ∈ y.1.weights P e, m ≤ reachBytes) → ∃ x, k.K w x ((cs.drop (i * P.cellsOf e)).take k.sz) ∧ good x

theorem OpensA.one {α : Type} {P : Program} {m i : Nat} {e : TypeId} {k : Kd α} {good : α → Prop} (hi : i < m) (h : Opens P e k good) : OpensA P m i e k good := by
  intro H enc w spare held n cs xs hx hl hs
  have hy : xs[i]? = some xs[i] := List.getElem?_eq_getElem (by omega)
  have ht := hx i hi
  rw [hy] at ht
  obtain ⟨x, h1, h2⟩ := h.2 H enc w spare held n _ _ _ ht (hs i _ hy)
  rw [← h.1]
  exact ⟨x, h1, h2⟩

theorem OpensA.cons {α β : Type} {P : Program} {m i : Nat} {e : TypeId} {a : Kd α} {b : Kd β} {ga : α → Prop} {gb : β → Prop} (hi : i < m) (h : Opens P e a ga) (hb : OpensA P m (i + 1) e b gb) : OpensA P m i e (Kd.pair a b) (fun x => ga x.1 ∧ gb x.2) := by
  intro H enc w spare held n cs xs hx hl hs
  obtain ⟨x, h1, h2⟩ := OpensA.one hi h H enc w spare held n cs xs hx hl hs
  obtain ⟨y, h3, h4⟩ := hb H enc w spare held n cs xs hx hl hs
  refine ⟨(x, y), ⟨_, _, ?_, h1, h3⟩, h2, h4⟩
  show (cs.drop (i * P.cellsOf e)).take (a.sz + b.sz) = _
  rw [List.take_add, List.drop_drop, ← h.1, Nat.add_mul, Nat.one_mul]

theorem Opens.array {α β : Type} {P : Program} {t e : TypeId} {m : Nat} {k : Kd α} {good : α → Prop} (f : β → α) (g : α → β) (hfg : ∀ x, f (g x) = x) (ht : P.underlying t = some (.array m e)) (hc : P.cellsOf t = k.sz) (h : OpensA P m 0 e k good) :
    Opens P t (Kd.iso k f) (fun y => good (f y)) :=
  ⟨hc, fun H enc w spare held fuel cs d ps hd hs => by
    obtain ⟨xs, n, rfl, hx, hl, hxl, hel⟩ := DataW.trod_array ht hd
    injection hx with hx1 _
    subst hx1
    obtain ⟨x, h1, h2⟩ := h H enc w spare held n cs xs hel hxl (fun j y hy m hm => hs m (by
      simp only [DataW.weights, ht]
      refine weights_mem_all (j := j) (d := y.1) ?_ m hm
      simp only [List.getElem?_map, hy, Option.map_some]))
    refine ⟨g x, ?_, (show good (f (g x)) by rw [hfg]; exact h2)⟩
    show k.K w (f (g x)) cs
    rw [hfg]
    have e : (cs.drop (0 * P.cellsOf e)).take k.sz = cs := by
      rw [Nat.zero_mul, List.drop_zero]
      exact List.take_of_length_le (by omega)
    rw [e] at h1
    exact h1⟩

theorem sized_arg {H : Type} {P : Program} {ts : List TypeId} {ds : List (DataW H)} (hsz : (DataW.weightsEach P ts ds).all (· ≤ reachBytes) = true) {j : Nat} {t : TypeId} {d : DataW H} (ht : ts[j]? = some t) (hd : ds[j]? = some d) : ∀ n ∈ d.weights P t, n ≤ reachBytes :=
  fun n hn => by simpa using List.all_eq_true.1 hsz _ (DataW.weights_mem_each ht hd n hn)

end Go.Proofs.YtjgnpggpgkkknaaW.PrintWords
