import Derived.Test.YtpapfbpefhcobaaV24
import Derived.Deep.Slices
import Derived.Carry
import Derived.SizedLaws
import Derived.WideShapes
import Derived.DataReads
import Derived.OpenShut
import Derived.Below
import Derived.DataShut
/-! A law's arguments, as they are handed in, as plain data; and what is known of them. -/
set_option linter.unusedVariables false
set_option linter.unusedSimpArgs false
namespace Go.VI
open Go Go.RowKit Go.ChangeShapes Go.WideShapes

def joinD {τ : Nat → Type} : (a b : List FK) → dens τ a → dens τ b → dens τ (a ++ b)
  | [], _, _, y => y
  | _ :: a, b, x, y => (x.1, joinD a b x.2 y)

theorem encs_join {τ : Nat → Type} (m : Bool) : ∀ (a b : List FK) (x : dens τ a) (y : dens τ b), encs m (a ++ b) (joinD a b x y) = encs m a x ++ encs m b y
  | [], _, _, y => rfl
  | k :: a, b, x, y => congrArg (k.enc m x.1 :: ·) (encs_join m a b x.2 y)

theorem encs_length {τ : Nat → Type} (m : Bool) : ∀ (a : List FK) (x : dens τ a), (encs m a x).length = a.length
  | [], _ => rfl
  | _ :: a, x => congrArg Nat.succ (encs_length m a x.2)

section
variable {P : Program} {U : Univ}

/-- What is known of an argument's cell. -/
def goodK (P : Program) (g : ∀ e, U.τ e → Prop) : (k : FK) → k.den U.τ → Prop
  | .int i, n => i.has n
  | .bool, _ => True
  | .str, s => s.length ≤ 140737488351232
  | .sl e, xs => xs.length * P.bytesOf e ≤ 140737488351232 ∧ ∀ x, List.Mem (α := U.τ e) x xs → g e x
  | .bs e, s => s.length * P.bytesOf e ≤ 140737488351232
  | .fn, _ => True

def goods (P : Program) (g : ∀ e, U.τ e → Prop) : (ks : List FK) → dens U.τ ks → Prop
  | [], _ => True
  | k :: r, x => goodK P g k x.1 ∧ goods P g r x.2

theorem goods_join {g : ∀ e, U.τ e → Prop} : ∀ (a b : List FK) (x : dens U.τ a) (y : dens U.τ b), goods P g a x → goods P g b y → goods P g (a ++ b) (joinD a b x y)
  | [], _, _, y, _, h => h
  | k :: a, b, x, y, hx, hy => ⟨hx.1, goods_join a b x.2 y hx.2 hy⟩

def IW (w : World) (b o : Nat) : Prop := (w.cell? ⟨b, o, none⟩).isSome = true

def Cells (P : Program) (U : Univ) (w : World) (l : List (CV U.τ)) (cs : List Value) : Prop :=
  cs.length = l.length ∧ ∀ (j : Nat) c u, l[j]? = some c → cs[j]? = some u → PC P U w (IW w) c u

theorem Cells.append {w : World} {a b : List (CV U.τ)} {x y : List Value} (h : Cells P U w a x) (k : Cells P U w b y) : Cells P U w (a ++ b) (x ++ y) := by
  refine ⟨by simp [h.1, k.1], fun j c u hc hu => ?_⟩
  rw [List.getElem?_append] at hc hu
  rw [h.1] at hu
  split at hc
  · rename_i hlt
    rw [if_pos hlt] at hu
    exact h.2 j c u hc hu
  · rename_i hge
    rw [if_neg hge] at hu
    exact k.2 _ c u hc hu

/-- A value of type t that can be read has these cells. -/
def Opens (P : Program) (U : Univ) (g : ∀ e, U.τ e → Prop) (t : TypeId) (ks : List FK) : Prop :=
  P.cellsOf t = ks.length ∧ ∀ (H : Type) (enc : TypeId × Value → H) (w : World) (spare : Nat → Bool) (held : Bool) (fuel : Nat) (cs : List Value) (d : DataW H) (ps : List MemPlace),
    DataW.trod enc P w 0 spare held fuel t cs = some (d, ps) → (∀ n ∈ d.weights P t, n ≤ reachBytes) → ∃ x : dens U.τ ks, goods P g ks x ∧ Cells P U w (encs false ks x) cs

/-- An element of a slice. -/
def OpensE (P : Program) (U : Univ) (g : ∀ e, U.τ e → Prop) (e : TypeId) : Prop :=
  ∀ (H : Type) (enc : TypeId × Value → H) (w : World) (spare : Nat → Bool) (held : Bool) (fuel : Nat) (cs : List Value) (d : DataW H) (ps : List MemPlace),
    DataW.trod enc P w 0 spare held fuel e cs = some (d, ps) → (∀ n ∈ d.weights P e, n ≤ reachBytes) → ∃ x : U.τ e, g e x ∧ Cells P U w (U.enc e x) cs

variable {g : ∀ e, U.τ e → Prop}

theorem OpensE.of {e : TypeId} {ks : List FK} (h : Opens P U g e ks) (f : dens U.τ ks → U.τ e) (hf : ∀ y, U.enc e (f y) = encs false ks y) (hg : ∀ y, goods P g ks y → g e (f y)) : OpensE P U g e := by
  intro H enc w spare held fuel cs d ps hd hs
  obtain ⟨x, h1, h2⟩ := h.2 H enc w spare held fuel cs d ps hd hs
  exact ⟨f x, hg x h1, by rw [hf]; exact h2⟩

theorem cells_one {w : World} {c : CV U.τ} {u : Value} (h : PC P U w (IW w) c u) : Cells P U w [c] [u] := by
  refine ⟨rfl, fun j c' u' hc hu => ?_⟩
  cases j with
  | zero => injection hc with hc; injection hu with hu; subst hc; subst hu; exact h
  | succ j => cases hc

theorem Opens.int {t : TypeId} {k : IntKind} (ht : P.underlying t = some (.int k)) (hc : P.cellsOf t = 1) : Opens P U g t [.int k] :=
  ⟨hc, fun H enc w spare held fuel cs d ps h _ => by
    obtain ⟨n, rfl, _, hw⟩ := DataW.trod_int ht h
    have := (Lit.wf_int_iff k n).1 hw
    exact ⟨(n, ()), ⟨this, trivial⟩, cells_one (.int k n this)⟩⟩

theorem Opens.bool {t : TypeId} (ht : P.underlying t = some .bool) (hc : P.cellsOf t = 1) : Opens P U g t [.bool] :=
  ⟨hc, fun H enc w spare held fuel cs d ps h _ => by
    obtain ⟨b, rfl, _⟩ := DataW.trod_bool ht h
    exact ⟨(b, ()), ⟨trivial, trivial⟩, cells_one (.bool b)⟩⟩

theorem Opens.str {t : TypeId} (ht : P.underlying t = some .string) (hc : P.cellsOf t = 1) : Opens P U g t [.str] :=
  ⟨hc, fun H enc w spare held fuel cs d ps h hs => by
    obtain ⟨s, rfl, hx, _⟩ := DataW.trod_string ht h
    injection hx with hd _
    subst hd
    have h1 : s.data.toList.length ≤ 140737488351232 := hs s.data.toList.length (by simp [DataW.weights])
    exact ⟨(s.data.toList, ()), ⟨h1, trivial⟩, cells_one (.str s.data.toList (by unfold maxLenI; omega))⟩⟩

theorem list_of_lt {α : Type} {p : Nat → α → Prop} (n : Nat) (h : ∀ i, i < n → ∃ x, p i x) : ∃ l : List α, l.length = n ∧ ∀ i x, l[i]? = some x → p i x := by
  induction n with
  | zero => exact ⟨[], rfl, fun i x h => by simp at h⟩
  | succ n ih =>
    obtain ⟨l, hl, hp⟩ := ih (fun i hi => h i (by omega))
    obtain ⟨x, hx⟩ := h n (by omega)
    refine ⟨l ++ [x], by simp [hl], fun i y hy => ?_⟩
    rcases Nat.lt_trichotomy i n with hi | hi | hi
    · exact hp i y (by rw [List.getElem?_append_left (by omega)] at hy; exact hy)
    · subst hi
      rw [List.getElem?_append_right (by omega), hl] at hy
      simp at hy
      subst hy
      exact hx
    · rw [List.getElem?_eq_none (by simp; omega)] at hy
      cases hy

theorem weights_mem_all {H : Type} {P : Program} {e : TypeId} : ∀ {ds : List (DataW H)} {j : Nat} {d : DataW H}, ds[j]? = some d → ∀ n ∈ d.weights P e, n ∈ DataW.weightsAll P e ds
  | d0 :: ds, 0, d, hd, n, hn => by
    simp only [List.getElem?_cons_zero, Option.some.injEq] at hd
    subst hd
    simp only [DataW.weightsAll, List.mem_append]
    exact Or.inl hn
  | d0 :: ds, j + 1, d, hd, n, hn => by
    simp only [List.getElem?_cons_succ] at hd
    simp only [DataW.weightsAll, List.mem_append]
    exact Or.inr (weights_mem_all hd n hn)
  | [], _, _, hd, _, _ => by simp at hd

/-- A row of elements that can be read, of whatever kind. -/
theorem open_row {H : Type} {enc : TypeId × Value → H} {w : World} {spare : Nat → Bool} {held : Bool} {fuel : Nat} {cs : List Value} {d : DataW H} {ps : List MemPlace} {α : Type} {t e : TypeId} (f : α → List (CV U.τ)) (p : α → Prop)
    (ht : P.underlying t = some (.slice e)) (hz : ∀ x, p x → (f x).length = P.cellsOf e) (hz1 : 1 ≤ P.cellsOf e)
    (he : ∀ (n : Nat) (cs : List Value) (d : DataW H) (ps : List MemPlace), DataW.trod enc P w 0 spare held n e cs = some (d, ps) → (∀ n ∈ d.weights P e, n ≤ reachBytes) → ∃ x : α, p x ∧ Cells P U w (f x) cs)
    (h : DataW.trod enc P w 0 spare held fuel t cs = some (d, ps)) (hs : ∀ n ∈ d.weights P t, n ≤ reachBytes) :
    ∃ xs : List α, (xs.length * P.bytesOf e ≤ 140737488351232) ∧ (∀ x ∈ xs, p x) ∧ ∀ c : CV U.τ, cont c = some (e, xs.map f, .ro) → ∃ u, cs = [u] ∧ PC P U w (IW w) c u := by
  rcases Deep.open_slice ht h with ⟨rfl, hx⟩ | ⟨a, len, cap, m, n, D, Pl, rfl, _, hl, hm, hmm, hx, hel⟩
  · exact ⟨[], by simp, fun x hx => by simp at hx, fun c hc => ⟨_, rfl, .nil c e .ro hc (by simp)⟩⟩
  · injection hx with hd _
    subst hd
    have hlm : len ≤ m := by
      rw [hmm]
      split <;> omega
    obtain ⟨xs, hxl, hxp⟩ := list_of_lt (p := fun i x => ∃ cs', w.cells? 0 (a.add (i * P.cellsOf e)) (P.cellsOf e) = some cs' ∧ p x ∧ Cells P U w (f x) cs') len (fun i hi => by
      obtain ⟨cs', h1, h2⟩ := hel i (by omega)
      obtain ⟨x, h3, h4⟩ := he n cs' _ _ h2 (fun n hn => hs n (by
        simp only [DataW.weights, ht]
        refine List.mem_cons_of_mem _ (List.mem_append_left _ (weights_mem_all (j := i) ?_ n hn))
        simp [hi]))
      exact ⟨x, cs', h1, h3, h4⟩)
    refine ⟨xs, ?_, fun x hx => ?_, fun c hc => ⟨_, rfl, ?_⟩⟩
    · have := hs ((len + (m - len)) * P.bytesOf e) (by simp [DataW.weights, ht])
      have h5 : xs.length * P.bytesOf e ≤ (len + (m - len)) * P.bytesOf e := Nat.mul_le_mul_right _ (by omega)
      exact Nat.le_trans h5 this
    · obtain ⟨j, hj⟩ := List.mem_iff_getElem?.1 hx
      obtain ⟨_, _, h4, _⟩ := hxp j x hj
      exact h4
    · by_cases hne : xs = []
      · subst hne
        have : len = 0 := hxl.symm
        subst this
        exact .emp c e a cap hc
      · have hlen : (xs.map f).length = len := by simp [hxl]
        have hpos : 0 < len := by rw [← hxl]; exact List.length_pos_iff.2 hne
        -- a place with cells has no spot
        have hcell : ∀ (i : Nat) (x : α) (j : Nat) (y : CV U.τ), xs[i]? = some x → (f x)[j]? = some y → ∃ u, w.cell? (a.add (i * P.cellsOf e + j)) = some u ∧ PC P U w (IW w) y u := fun i x j y hi hj => by
          obtain ⟨cs', h1, h2, h3⟩ := hxp i x hi
          have hjl : j < (f x).length := (List.getElem?_eq_some_iff.1 hj).1
          have hjc : j < cs'.length := by rw [h3.1]; exact hjl
          have hu : cs'[j]? = some (cs'[j]'hjc) := List.getElem?_eq_getElem hjc
          refine ⟨_, ?_, h3.2 j y _ hj hu⟩
          have := (World.cells?_some h1).2.2 j (by rw [← hz x h2]; exact hjl)
          rw [Deep.add_add, hu] at this
          exact this
        have hspot : a.spot = none := by
          cases xs with
          | nil => exact absurd rfl hne
          | cons x xs =>
            obtain ⟨_, _, h2, _⟩ := hxp 0 x rfl
            have hf := hz x h2
            obtain ⟨y, hy⟩ : ∃ y, (f x)[0]? = some y := ⟨_, List.getElem?_eq_getElem (by omega)⟩
            obtain ⟨u, hu, _⟩ := hcell 0 x 0 y rfl hy
            have e0 : a.add (0 * P.cellsOf e + 0) = a := by simp [Addr.add]
            rw [e0] at hu
            cases hsp : a.spot with
            | none => rfl
            | some q =>
              unfold World.cell? at hu
              split at hu
              · rw [hsp] at hu; simp at hu
              · cases hu
        obtain ⟨b, off, sp⟩ := a
        simp only at hspot
        subst hspot
        have hmx : (len : Int) ≤ maxLenI := by unfold maxLenI; unfold maxLen at hm; omega
        have key := PC.of_cont (P := P) (U := U) (w := w) (I := IW w) (b := b) (off := off) (cap := cap) hc (by simp) (by rw [hlen]; exact hl) (by simp) (by rw [hlen]; exact hmx)
          ⟨fun i l hi => by
            rw [List.getElem?_map] at hi
            cases hxi : xs[i]? with
            | none => rw [hxi] at hi; cases hi
            | some x => rw [hxi] at hi; injection hi with hi; subst hi; obtain ⟨_, _, h2, _⟩ := hxp i x hxi; exact hz x h2,
          fun i l j y hi hj => by
            rw [List.getElem?_map] at hi
            cases hxi : xs[i]? with
            | none => rw [hxi] at hi; cases hi
            | some x =>
              rw [hxi] at hi; injection hi with hi; subst hi
              obtain ⟨u, hu, _⟩ := hcell i x j y hxi hj
              rw [Addr.add_none, ← Nat.add_assoc] at hu
              show (w.cell? _).isSome = true
              rw [hu]; rfl,
          fun i l j y hi hj => by
            rw [List.getElem?_map] at hi
            cases hxi : xs[i]? with
            | none => rw [hxi] at hi; cases hi
            | some x =>
              rw [hxi] at hi; injection hi with hi; subst hi
              obtain ⟨u, hu, hp⟩ := hcell i x j y hxi hj
              rw [Addr.add_none, ← Nat.add_assoc] at hu
              exact ⟨u, hu, hp⟩⟩
        rw [hlen] at key
        exact key

theorem Opens.slice {t e : TypeId} (ht : P.underlying t = some (.slice e)) (hc : P.cellsOf t = 1) (hz : ∀ x : U.τ e, (U.enc e x).length = P.cellsOf e) (hz1 : 1 ≤ P.cellsOf e) (he : OpensE P U g e) : Opens P U g t [.sl e] :=
  ⟨hc, fun H enc w spare held fuel cs d ps h hs => by
    obtain ⟨xs, h1, h2, h3⟩ := open_row (U.enc e) (g e) ht (fun x _ => hz x) hz1 (fun n cs d ps a b => he H enc w spare held n cs d ps a b) h hs
    obtain ⟨u, rfl, h4⟩ := h3 (.sl e xs .ro) rfl
    exact ⟨(xs, ()), ⟨⟨h1, h2⟩, trivial⟩, cells_one h4⟩⟩

theorem Opens.bytes {t e : TypeId} (ht : P.underlying t = some (.slice e)) (hc : P.cellsOf t = 1) (hu : P.underlying e = some (.int .u8)) (hz : P.cellsOf e = 1) : Opens P U g t [.bs e] :=
  ⟨hc, fun H enc w spare held fuel cs d ps h hs => by
    obtain ⟨xs, h1, h2, h3⟩ := open_row (U := U) (fun b : UInt8 => [.int .u8 b.toNat]) (fun _ : UInt8 => True) ht (fun x _ => by rw [hz]; rfl) (by omega) (fun n cs d ps a b => by
      obtain ⟨n, rfl, _, hw⟩ := DataW.trod_int hu a
      have hw := (Lit.wf_int_iff .u8 n).1 hw
      have h5 : IntKind.u8.min = 0 := by decide
      have h6 : IntKind.u8.max = 255 := by decide
      refine ⟨UInt8.ofNat n.toNat, trivial, cells_one ?_⟩
      have : ((UInt8.ofNat n.toNat).toNat : Int) = n := by
        have h7 : (UInt8.ofNat n.toNat).toNat = n.toNat % 256 := by simp
        rw [h7]
        omega
      show PC P U w (IW w) (CV.int .u8 ((UInt8.ofNat n.toNat).toNat : Int)) (.int .u8 n)
      rw [this]
      exact .int _ _ hw) h hs
    obtain ⟨u, rfl, h4⟩ := h3 (.bs e xs .ro) rfl
    exact ⟨(xs, ()), ⟨h1, trivial⟩, cells_one h4⟩⟩

/-- The fields of a struct from place i on, which begin at cell off. -/
def OpensF (P : Program) (U : Univ) (g : ∀ e, U.τ e → Prop) (fs : Array Field) (i off : Nat) (ks : List FK) : Prop :=
  ∀ (H : Type) (enc : TypeId × Value → H) (w : World) (spare : Nat → Bool) (held : Bool) (n : Nat) (cs : List Value) (xs : List (DataW H × List MemPlace)),
    (∀ (j : Nat) (f : Field), fs[j]? = some f → DataW.trod enc P w 0 spare held n f.type ((cs.drop f.offset).take (P.cellsOf f.type)) = xs[j]?) → xs.length = fs.size →
    (∀ (j : Nat) (f : Field) (y : DataW H × List MemPlace), fs[j]? = some f → xs[j]? = some y → ∀ m ∈ y.1.weights P f.type, m ≤ reachBytes) → ∃ x : dens U.τ ks, goods P g ks x ∧ Cells P U w (encs false ks x) ((cs.drop off).take ks.length)

theorem OpensF.nil {fs : Array Field} {i off : Nat} : OpensF P U g fs i off [] := fun H enc w spare held n cs xs hx hl hs => ⟨(), trivial, by simp [encs, Cells]⟩

theorem OpensF.cons {fs : Array Field} {i off off2 : Nat} {a b : List FK} (f : Field) (hf : fs[i]? = some f) (ho : f.offset = off) (h : Opens P U g f.type a) (ho2 : off2 = off + a.length)
    (hb : OpensF P U g fs (i + 1) off2 b) : OpensF P U g fs i off (a ++ b) := by
  intro H enc w spare held n cs xs hx hl hs
  have hi : i < fs.size := (Array.getElem?_eq_some_iff.1 hf).1
  have hy : xs[i]? = some xs[i] := List.getElem?_eq_getElem (by omega)
  have ht := hx i f hf
  rw [hy] at ht
  obtain ⟨x, h1, h2⟩ := h.2 H enc w spare held n _ _ _ ht (hs i f _ hf hy)
  obtain ⟨y, h3, h4⟩ := hb H enc w spare held n cs xs hx hl hs
  refine ⟨joinD a b x y, goods_join a b x y h1 h3, ?_⟩
  rw [encs_join, List.length_append, List.take_add, List.drop_drop, ← ho2]
  rw [h.1, ho] at h2
  exact h2.append h4

theorem Opens.struct {t : TypeId} {fs : Array Field} {ks : List FK} (ht : P.underlying t = some (.struct fs)) (hc : P.cellsOf t = ks.length) (h : OpensF P U g fs 0 0 ks) : Opens P U g t ks :=
  ⟨hc, fun H enc w spare held fuel cs d ps hd hs => by
    obtain ⟨xs, n, rfl, hx, hl, hxl, hel⟩ := DataW.trod_struct ht hd
    injection hx with hx1 _
    subst hx1
    obtain ⟨x, h1, h2⟩ := h H enc w spare held n cs xs hel hxl (fun j f y hf hy m hm => hs m (by
      simp only [DataW.weights, ht]
      refine DataW.weights_mem_each (j := j) (t := f.type) (d := y.1) ?_ ?_ m hm
      · simp only [List.getElem?_map, Array.getElem?_toList, hf, Option.map_some]
      · simp only [List.getElem?_map, hy, Option.map_some]))
    refine ⟨x, h1, ?_⟩
    have e : (cs.drop 0).take ks.length = cs := by
      rw [List.drop_zero]
      exact List.take_of_length_le (by omega)
    rw [e] at h2
    exact h2⟩

/-- The elements of an array from place i on. -/
def OpensA (P : Program) (U : Univ) (g : ∀ e, U.τ e → Prop) (m i : Nat) (e : TypeId) (ks : List FK) : Prop :=
  ∀ (H : Type) (enc : TypeId × Value → H) (w : World) (spare : Nat → Bool) (held : Bool) (n : Nat) (cs : List Value) (xs : List (DataW H × List MemPlace)),
    (∀ j, j < m → DataW.trod enc P w 0 spare held n e ((cs.drop (j * P.cellsOf e)).take (P.cellsOf e)) = xs[j]?) → xs.length = m →
    (∀ (j : Nat) (y : DataW H × List MemPlace), xs[j]? = some y → ∀ m ∈ y.1.weights P e, m ≤ reachBytes) → ∃ x : dens U.τ ks, goods P g ks x ∧ Cells P U w (encs false ks x) ((cs.drop (i * P.cellsOf e)).take ks.length)

theorem OpensA.nil {m i : Nat} {e : TypeId} : OpensA P U g m i e [] := fun H enc w spare held n cs xs hx hl hs => ⟨(), trivial, by simp [encs, Cells]⟩

theorem OpensA.cons {m i : Nat} {e : TypeId} {a b : List FK} (hi : i < m) (h : Opens P U g e a) (hb : OpensA P U g m (i + 1) e b) : OpensA P U g m i e (a ++ b) := by
  intro H enc w spare held n cs xs hx hl hs
  have hy : xs[i]? = some xs[i] := List.getElem?_eq_getElem (by omega)
  have ht := hx i hi
  rw [hy] at ht
  obtain ⟨x, h1, h2⟩ := h.2 H enc w spare held n _ _ _ ht (hs i _ hy)
  obtain ⟨y, h3, h4⟩ := hb H enc w spare held n cs xs hx hl hs
  refine ⟨joinD a b x y, goods_join a b x y h1 h3, ?_⟩
  rw [encs_join, List.length_append, List.take_add, List.drop_drop, ← h.1]
  rw [Nat.add_mul, Nat.one_mul] at h4
  exact h2.append h4

theorem Opens.array {t e : TypeId} {m : Nat} {ks : List FK} (ht : P.underlying t = some (.array m e)) (hc : P.cellsOf t = ks.length) (h : OpensA P U g m 0 e ks) : Opens P U g t ks :=
  ⟨hc, fun H enc w spare held fuel cs d ps hd hs => by
    obtain ⟨xs, n, rfl, hx, hl, hxl, hel⟩ := DataW.trod_array ht hd
    injection hx with hx1 _
    subst hx1
    obtain ⟨x, h1, h2⟩ := h H enc w spare held n cs xs hel hxl (fun j y hy m hm => hs m (by
      simp only [DataW.weights, ht]
      refine weights_mem_all (j := j) (d := y.1) ?_ m hm
      simp only [List.getElem?_map, hy, Option.map_some]))
    refine ⟨x, h1, ?_⟩
    have e : (cs.drop (0 * P.cellsOf e)).take ks.length = cs := by
      rw [Nat.zero_mul, List.drop_zero]
      exact List.take_of_length_le (by omega)
    rw [e] at h2
    exact h2⟩

theorem sized_arg {H : Type} {P : Program} {ts : List TypeId} {ds : List (DataW H)} (hsz : (DataW.weightsEach P ts ds).all (· ≤ reachBytes) = true) {j : Nat} {t : TypeId} {d : DataW H} (ht : ts[j]? = some t) (hd : ds[j]? = some d) : ∀ n ∈ d.weights P t, n ≤ reachBytes :=
  fun n hn => by simpa using List.all_eq_true.1 hsz _ (DataW.weights_mem_each ht hd n hn)

/-- Whether a type's values are rows of cells. -/
def aggT (P : Program) (t : TypeId) : Bool :=
  match P.underlying t with
  | some (.struct _) => true
  | some (.array _ _) => true
  | _ => false

/-- An argument, as plain data. -/
theorem arg_open {T : Ty U.τ} {t : TypeId} (h : Opens P U g t T.ks) (ha : aggT P t = T.agg) {H : Type} {enc : TypeId × Value → H} {w : World} {base : Nat} {spare : Nat → Bool} {held : Bool} {v : Value} {d : DataW H} {ps : List MemPlace} (hok : Value.okWide P w .any base t v)
    (hd : DataW.Trod enc P w 0 spare held t v d ps) (hs : ∀ n ∈ d.weights P t, n ≤ reachBytes) : ∃ x : T.α, (∃ y, x = T.of y ∧ goods P g T.ks y) ∧ ValOk P U w (IW w) T.agg (T.enc false x) v := by
  obtain ⟨fuel, hd⟩ := hd
  obtain ⟨y, h1, h2, h3⟩ := h.2 H enc w spare held fuel _ d ps hd hs
  refine ⟨T.of y, ⟨y, rfl, h1⟩, ?_⟩
  have he : T.enc false (T.of y) = encs false T.ks y := by unfold Ty.enc; rw [T.ok]
  rw [he]
  unfold Value.okWide at hok
  unfold aggT at ha
  have row : ∀ cs : Array Value, v = .agg cs → T.agg = true → ValOk P U w (IW w) T.agg (encs false T.ks y) v := fun cs hv hT => by
    subst hv
    rw [hT]
    have hc : (Value.agg cs).cells.toList = cs.toList := rfl
    rw [hc] at h2 h3
    refine ⟨cs, rfl, by simpa using h2, fun j c hj => ?_⟩
    have hjl : j < cs.toList.length := by rw [h2]; exact (List.getElem?_eq_some_iff.1 hj).1
    have hu : cs.toList[j]? = some (cs.toList[j]'hjl) := List.getElem?_eq_getElem hjl
    exact ⟨_, by rw [← Array.getElem?_toList]; exact hu, h3 j c _ hj hu⟩
  have one : (∀ cs : Array Value, v ≠ .agg cs) → (∀ cs : Array Value, v ≠ .tuple cs) → T.agg = false → ValOk P U w (IW w) T.agg (encs false T.ks y) v := fun hv hv2 hT => by
    rw [hT]
    have hc : v.cells.toList = [v] := by cases v <;> first | rfl | exact absurd rfl (hv _) | exact absurd rfl (hv2 _)
    rw [hc] at h2 h3
    match hl : encs false T.ks y, h2, h3 with
    | [c], _, h3 => exact ⟨c, rfl, h3 0 c v rfl rfl⟩
    | [], h2, _ => exact absurd h2 (by simp)
    | _ :: _ :: _, h2, _ => exact absurd h2 (by simp)
  cases hu : P.underlying t with
  | none => rw [hu] at hok; simp [Cell.okWide, Cell.ok, hu] at hok
  | some d0 =>
    rw [hu] at hok ha
    cases d0 with
    | struct fs => obtain ⟨cs, hv, _⟩ := hok; exact row cs hv ha.symm
    | array m e => obtain ⟨cs, hv, _⟩ := hok; exact row cs hv ha.symm
    | _ => exact one (fun cs hv => by subst hv; simp [Cell.okWide, Cell.ok, hu] at hok) (fun cs hv => by subst hv; simp [Cell.okWide, Cell.ok, hu] at hok) ha.symm

/-- A law that says true. -/
theorem law_calls {e : Ent U} (he : EntOk P U e) {T : Ty U.τ} {x : e.sig.A} {vs : List Value} {w : World} {r : e.sig.B} (hr : e.G x = some r) (ho : e.sig.out r = ⟨.one (.bool true), []⟩) (ha : ArgsRel P U w (IW w) (fun _ => none) (fun _ => (0, 0)) (encArgs e.sig.ps x) vs 0) :
    Calls P e.f vs.toArray w fun ed w' => ed = .returned (.bool true) ∧ Below w.heap.size w w' := by
  obtain ⟨_, h2⟩ := he x r hr
  refine (h2 ⟨IW w, fun _ => (0, 0), fun _ => none⟩ w vs ha (fun b o h => h) (fun b L h => by cases h)).mono fun ed w' hh => ?_
  obtain ⟨u, G', h3, h4, h5, _⟩ := hh
  rw [ho] at h5
  have h6 : u = .bool true := PC.of_bool h5
  subst h6
  exact ⟨h3, h4.os, h4.tape, h4.output, h4.size, fun k hk => h4.old k hk rfl⟩

end
end Go.VI
