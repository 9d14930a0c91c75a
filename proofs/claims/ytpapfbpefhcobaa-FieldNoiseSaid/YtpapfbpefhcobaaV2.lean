import Derived.Test.YtpapfbpefhcobaaV1
import GoSem.Claims
/-! How plain data stands for values in memory. -/
set_option linter.unusedVariables false
set_option linter.unusedSimpArgs false
namespace Go.VI
open Go

structure Ghost where
  I : Nat → Nat → Prop
  loc : Nat → Nat × Nat
  who : Nat → Option (Nat × Option Nat)

def one1 : Value → Prop
  | .agg _ => False
  | .tuple _ => False
  | _ => True

def cont {U : Univ} : CV U.τ → Option (Nat × List (List (CV U.τ)) × Fl)
  | .sl e xs f => some (e, xs.map (U.enc e), f)
  | .bs e s f => some (e, s.map fun b => [.int .u8 b.toNat], f)
  | _ => none

abbrev Slots (U : Univ) := Nat → AV U.τ

def upd {U : Univ} (σ : Slots U) (s : Nat) (v : AV U.τ) : Slots U := fun t => if t = s then v else σ t

def updsσ {U : Univ} (σ : Slots U) : List (Nat × AV U.τ) → Slots U
  | [] => σ
  | (s, v) :: r => updsσ (upd σ s v) r

theorem beq_ne {a b : Nat} (h : a ≠ b) : Nat.beq a b = false := by
  cases hb : Nat.beq a b with
  | false => rfl
  | true => exact absurd (Nat.eq_of_beq_eq_true hb) h

theorem get_put {U : Univ} (st : St U) (s : Nat) (v : AV U.τ) : (st.put s v).get = upd st.get s v := by
  funext t
  induction st with
  | nil =>
    simp only [St.put, St.get, upd]
    by_cases h : t = s
    · subst h; simp
    · have : Nat.beq s t = false := beq_ne (Ne.symm h)
      simp [h, this]
  | cons p r ih =>
    obtain ⟨q, u⟩ := p
    simp only [St.put]
    by_cases hq : q = s
    · subst hq
      simp only [Nat.beq_refl, cond_true, St.get, upd]
      by_cases h : t = q
      · subst h; simp
      · have : Nat.beq q t = false := beq_ne (Ne.symm h)
        simp [h, this]
    · have h1 : Nat.beq q s = false := beq_ne hq
      simp only [h1, cond_false]
      cases hb : Nat.blt s q
      · simp only [cond_false, St.get]
        rw [ih]
        by_cases h : q = t
        · subst h; simp [upd, hq]
        · have : Nat.beq q t = false := beq_ne h
          simp [this, upd]
      · simp only [cond_true, St.get, upd]
        by_cases h : t = s
        · subst h; simp
        · have : Nat.beq s t = false := beq_ne (Ne.symm h)
          simp [h, this]

theorem get_puts {U : Univ} : ∀ (ws : List (Nat × AV U.τ)) (st : St U), (st.puts ws).get = updsσ st.get ws
  | [], _ => rfl
  | (s, v) :: r, st => by
    rw [St.puts, get_puts r, get_put]; rfl

section
variable {P : Program} {U : Univ}

/-- One cell's value. -/
inductive PC (P : Program) (U : Univ) (w : World) (I : Nat → Nat → Prop) : CV U.τ → Value → Prop
  | any (v : Value) : one1 v → PC P U w I .any v
  | bool (b : Bool) : PC P U w I (.bool b) (.bool b)
  | int (k : IntKind) (n : Int) : k.has n → PC P U w I (.int k n) (.int k n)
  | str (s : List UInt8) : (s.length : Int) ≤ maxLenI → PC P U w I (.str s) (.string ⟨⟨s⟩⟩)
  | fn (f : Nat) : PC P U w I (.fn f) (.func (.func f) #[] #[])
  | nil (c : CV U.τ) (e : Nat) (f : Fl) : cont c = some (e, [], f) → f ≠ .app → PC P U w I c (.slice none 0 0)
  | emp (c : CV U.τ) (e : Nat) (p : Addr) (cap : Nat) : cont c = some (e, [], .ro) → PC P U w I c (.slice (some p) 0 cap)
  | row (c : CV U.τ) (e : Nat) (css : List (List (CV U.τ))) (f : Fl) (b off cap : Nat) : cont c = some (e, css, f) → f ≠ .app → css.length ≤ cap → (f = .tight → cap = css.length) → (css.length : Int) ≤ maxLenI →
      (∀ (i : Nat) (cs : List (CV U.τ)), css[i]? = some cs → cs.length = P.cellsOf e) →
      (∀ (i : Nat) (cs : List (CV U.τ)) (j : Nat) (x : CV U.τ), css[i]? = some cs → cs[j]? = some x → I b (off + i * P.cellsOf e + j)) →
      (∀ (i : Nat) (cs : List (CV U.τ)) (j : Nat) (x : CV U.τ), css[i]? = some cs → cs[j]? = some x → (w.cell? ⟨b, off + i * P.cellsOf e + j, none⟩).isSome = true) →
      (∀ (i : Nat) (cs : List (CV U.τ)) (j : Nat) (x : CV U.τ), css[i]? = some cs → cs[j]? = some x → PC P U w I x ((w.cell? ⟨b, off + i * P.cellsOf e + j, none⟩).getD undef)) →
      PC P U w I c (.slice (some ⟨b, off, none⟩) css.length cap)

theorem PC.one1 {w : World} {I : Nat → Nat → Prop} {c : CV U.τ} {v : Value} (h : PC P U w I c v) : one1 v := by
  cases h <;> first | assumption | trivial

theorem PC.mono {w w' : World} {I I' : Nat → Nat → Prop} {c : CV U.τ} {v : Value} (h : PC P U w I c v)
    (hI : ∀ b o, I b o → I' b o ∧ w'.cell? ⟨b, o, none⟩ = w.cell? ⟨b, o, none⟩) : PC P U w' I' c v := by
  induction h with
  | any v h => exact .any v h
  | bool b => exact .bool b
  | int k n h => exact .int k n h
  | str s h => exact .str s h
  | fn f => exact .fn f
  | nil c e f h1 h2 => exact .nil c e f h1 h2
  | emp c e p cap h => exact .emp c e p cap h
  | row c e css f b off cap h1 h2 h3 h4 h5 h6 h7 h8 h9 ih =>
    refine .row c e css f b off cap h1 h2 h3 h4 h5 h6 (fun i cs j x a b => (hI _ _ (h7 i cs j x a b)).1) (fun i cs j x a b => ?_) (fun i cs j x a b => ?_)
    · rw [(hI _ _ (h7 i cs j x a b)).2]; exact h8 i cs j x a b
    · rw [(hI _ _ (h7 i cs j x a b)).2]; exact ih i cs j x a b

/-- What a slice's elements are, and where. -/
structure Cont (P : Program) (U : Univ) (w : World) (I : Nat → Nat → Prop) (b off sz : Nat) (css : List (List (CV U.τ))) : Prop where
  len : ∀ (i : Nat) (cs : List (CV U.τ)), css[i]? = some cs → cs.length = sz
  imm : ∀ (i : Nat) (cs : List (CV U.τ)) (j : Nat) (x : CV U.τ), css[i]? = some cs → cs[j]? = some x → I b (off + i * sz + j)
  cell : ∀ (i : Nat) (cs : List (CV U.τ)) (j : Nat) (x : CV U.τ), css[i]? = some cs → cs[j]? = some x → ∃ u, w.cell? ⟨b, off + i * sz + j, none⟩ = some u ∧ PC P U w I x u

theorem Cont.mono {w w' : World} {I I' : Nat → Nat → Prop} {b off sz : Nat} {css : List (List (CV U.τ))} (h : Cont P U w I b off sz css)
    (hI : ∀ b o, I b o → I' b o ∧ w'.cell? ⟨b, o, none⟩ = w.cell? ⟨b, o, none⟩) : Cont P U w' I' b off sz css :=
  ⟨h.len, fun i cs j x a c => (hI _ _ (h.imm i cs j x a c)).1, fun i cs j x a c => by
    obtain ⟨u, h1, h2⟩ := h.cell i cs j x a c
    exact ⟨u, by rw [(hI _ _ (h.imm i cs j x a c)).2]; exact h1, h2.mono hI⟩⟩

theorem PC.of_cont {w : World} {I : Nat → Nat → Prop} {c : CV U.τ} {e : Nat} {css : List (List (CV U.τ))} {f : Fl} {b off cap : Nat} (hc : cont c = some (e, css, f)) (hf : f ≠ .app) (hl : css.length ≤ cap) (ht : f = .tight → cap = css.length)
    (hm : (css.length : Int) ≤ maxLenI) (h : Cont P U w I b off (P.cellsOf e) css) : PC P U w I c (.slice (some ⟨b, off, none⟩) css.length cap) :=
  .row c e css f b off cap hc hf hl ht hm h.len h.imm (fun i cs j x a d => by obtain ⟨u, h1, _⟩ := h.cell i cs j x a d; simp [h1])
    (fun i cs j x a d => by obtain ⟨u, h1, h2⟩ := h.cell i cs j x a d; simp only [h1, Option.getD_some]; exact h2)

theorem PC.slice {w : World} {I : Nat → Nat → Prop} {c : CV U.τ} {e : Nat} {css : List (List (CV U.τ))} {f : Fl} {v : Value} (h : PC P U w I c v) (hc : cont c = some (e, css, f)) :
    f ≠ .app ∧ (css.length : Int) ≤ maxLenI ∧ ((css = [] ∧ v = .slice none 0 0) ∨ (f = .ro ∧ css = [] ∧ ∃ p cap, v = .slice (some p) 0 cap) ∨ ∃ b off cap, v = .slice (some ⟨b, off, none⟩) css.length cap ∧ css.length ≤ cap ∧ (f = .tight → cap = css.length) ∧ Cont P U w I b off (P.cellsOf e) css) := by
  cases h with
  | emp c e' p cap h1 =>
    rw [hc] at h1
    simp only [Option.some.injEq, Prod.mk.injEq] at h1
    obtain ⟨rfl, rfl, rfl⟩ := h1
    exact ⟨by simp, by simp [maxLenI], .inr (.inl ⟨rfl, rfl, p, cap, rfl⟩)⟩
  | nil c e' f' h1 h2 =>
    rw [hc] at h1
    simp only [Option.some.injEq, Prod.mk.injEq] at h1
    obtain ⟨rfl, rfl, rfl⟩ := h1
    exact ⟨h2, by simp [maxLenI], .inl ⟨rfl, rfl⟩⟩
  | row c e' css' f' b off cap h1 h2 h3 h4 h5 h6 h7 h8 h9 =>
    rw [hc] at h1
    simp only [Option.some.injEq, Prod.mk.injEq] at h1
    obtain ⟨rfl, rfl, rfl⟩ := h1
    refine ⟨h2, h5, .inr (.inr ⟨b, off, cap, rfl, h3, h4, h6, h7, fun i cs j x a d => ?_⟩)⟩
    obtain ⟨u, hu⟩ := Option.isSome_iff_exists.1 (h8 i cs j x a d)
    have := h9 i cs j x a d
    rw [hu] at this
    exact ⟨u, hu, this⟩
  | any v h => simp [cont] at hc
  | bool b => simp [cont] at hc
  | int k n h => simp [cont] at hc
  | str s h => simp [cont] at hc
  | fn f => simp [cont] at hc

/-- Cells of a row that may be written. -/
def Spare (w : World) (I : Nat → Nat → Prop) (b lo hi : Nat) : Prop :=
  ∃ c T fz, w.heap[b]? = some (.cells c T fz) ∧ hi ≤ c.size ∧ (∀ o, fz.1 ≤ o → o < fz.2 → c.size ≤ o) ∧ (∀ o, lo ≤ o → o < hi → ¬ I b o)

/-- A slice that may be appended to by whoever holds it at place L. -/
def AppOk (P : Program) (U : Univ) (w : World) (I : Nat → Nat → Prop) (who : Nat → Option (Nat × Option Nat)) (L : Nat × Option Nat) (c : CV U.τ) (v : Value) : Prop :=
  ∃ e css, cont c = some (e, css, .app) ∧ (css.length : Int) ≤ maxLenI ∧ ((css = [] ∧ v = .slice none 0 0) ∨
    ∃ b off cap, v = .slice (some ⟨b, off, none⟩) css.length cap ∧ css.length ≤ cap ∧ Cont P U w I b off (P.cellsOf e) css ∧
      (cap = css.length ∨ (who b = some L ∧ Spare w I b (off + css.length * P.cellsOf e) (off + cap * P.cellsOf e))))

def CellOk (P : Program) (U : Univ) (w : World) (I : Nat → Nat → Prop) (who : Nat → Option (Nat × Option Nat)) (L : Nat × Option Nat) (c : CV U.τ) (v : Value) : Prop :=
  PC P U w I c v ∨ AppOk P U w I who L c v

theorem CellOk.one1 {w : World} {I : Nat → Nat → Prop} {who : Nat → Option (Nat × Option Nat)} {L : Nat × Option Nat} {c : CV U.τ} {v : Value} (h : CellOk P U w I who L c v) : one1 v := by
  rcases h with h | ⟨e, css, _, _, ⟨_, rfl⟩ | ⟨b, off, cap, rfl, _⟩⟩
  · exact h.one1
  · trivial
  · trivial

def ValOk (P : Program) (U : Univ) (w : World) (I : Nat → Nat → Prop) : Bool → List (CV U.τ) → Value → Prop
  | true, cs, u => ∃ us, u = .agg us ∧ us.size = cs.length ∧ ∀ (j : Nat) c, cs[j]? = some c → ∃ x, us[j]? = some x ∧ PC P U w I c x
  | false, cs, u => ∃ c, cs = [c] ∧ PC P U w I c u

theorem ValOk.mono {w w' : World} {I I' : Nat → Nat → Prop} {a : Bool} {cs : List (CV U.τ)} {u : Value} (h : ValOk P U w I a cs u)
    (hI : ∀ b o, I b o → I' b o ∧ w'.cell? ⟨b, o, none⟩ = w.cell? ⟨b, o, none⟩) : ValOk P U w' I' a cs u := by
  cases a with
  | true =>
    obtain ⟨us, h1, h2, h3⟩ := h
    exact ⟨us, h1, h2, fun j c hc => let ⟨x, a, b⟩ := h3 j c hc; ⟨x, a, b.mono hI⟩⟩
  | false =>
    obtain ⟨c, h1, h2⟩ := h
    exact ⟨c, h1, h2.mono hI⟩

/-- A box with these cells lies at p; s is the slot that owns it. -/
structure BoxRel (P : Program) (U : Univ) (w : World) (I : Nat → Nat → Prop) (who : Nat → Option (Nat × Option Nat)) (s : Nat) (p : Nat × Nat) (cs : List (CV U.τ)) : Prop where
  hwho : who p.1 = some (s, none)
  himm : ∀ o, ¬ I p.1 o
  row : ∃ c T fz, w.heap[p.1]? = some (.cells c T fz) ∧ p.2 + cs.length ≤ c.size ∧ (∀ o, fz.1 ≤ o → o < fz.2 → c.size ≤ o) ∧
    ∀ (i : Nat) x, cs[i]? = some x → ∃ u, c[p.2 + i]? = some u ∧ CellOk P U w I who (s, some i) x u

structure BlkRel (P : Program) (w : World) (I : Nat → Nat → Prop) (who : Nat → Option (Nat × Option Nat)) (s : Nat) (p : Nat × Nat) (e : Nat) (x : List UInt8) : Prop where
  hwho : who p.1 = some (s, none)
  himm : ∀ o, ¬ I p.1 o
  sz : P.cellsOf e = 1
  len : (x.length : Int) ≤ maxLenI
  row : ∃ c T fz, w.heap[p.1]? = some (.cells c T fz) ∧ p.2 + x.length ≤ c.size ∧ (∀ o, fz.1 ≤ o → o < fz.2 → c.size ≤ o) ∧
    ∀ (i : Nat) (b : UInt8), x[i]? = some b → c[p.2 + i]? = some (.int .u8 b.toNat)

def SlotOk (P : Program) (U : Univ) (G : Ghost) (σ : Slots U) (w : World) (t : Nat) (v : AV U.τ) (u : Value) : Prop :=
  match v with
  | .undef => True
  | .one .any => True
  | .one (.ref s off) => (∃ cs, σ s = .box cs) ∧ u = .pointer (some ⟨(G.loc s).1, (G.loc s).2 + off, none⟩)
  | .one (.sref s) => ∃ e x q cap, σ s = .bblk e x q ∧ u = .slice (some ⟨(G.loc s).1, (G.loc s).2, none⟩) x.length cap ∧ x.length ≤ cap ∧ (q = true → cap = x.length)
  | .one (.eref s i) => (∃ e x q, σ s = .bblk e x q) ∧ u = .pointer (some ⟨(G.loc s).1, (G.loc s).2 + i, none⟩)
  | .one c => CellOk P U w G.I G.who (t, none) c u
  | .agg cs => ValOk P U w G.I true cs u
  | .tup vs => ∃ us, u = .tuple us ∧ us.size = vs.length ∧ ∀ (j : Nat) a cs, vs[j]? = some (a, cs) → ∃ x, us[j]? = some x ∧ ValOk P U w G.I a cs x
  | .box cs => (t < vbase → u = .pointer (some ⟨(G.loc t).1, (G.loc t).2, none⟩)) ∧ BoxRel P U w G.I G.who t (G.loc t) cs
  | .bblk e x q => (t < vbase → ∃ cap, u = .slice (some ⟨(G.loc t).1, (G.loc t).2, none⟩) x.length cap ∧ x.length ≤ cap ∧ (q = true → cap = x.length)) ∧ BlkRel P w G.I G.who t (G.loc t) e x
  | .im cs => ∃ b off, u = .pointer (some ⟨b, off, none⟩) ∧ ∀ (j : Nat) c, cs[j]? = some c → G.I b (off + j) ∧ ∃ x, w.cell? ⟨b, off + j, none⟩ = some x ∧ PC P U w G.I c x

/-- From one world to a later one: what is owned by nobody of ours, and what must not change, is as it was. -/
structure Step (G : Ghost) (w : World) (G' : Ghost) (w' : World) : Prop where
  os : w'.os = w.os
  tape : w'.tape = w.tape
  output : w'.output = w.output
  size : w.heap.size ≤ w'.heap.size
  old : ∀ b, b < w.heap.size → G.who b = none → w'.heap[b]? = w.heap[b]?
  imm : ∀ b o, G.I b o → G'.I b o ∧ w'.cell? ⟨b, o, none⟩ = w.cell? ⟨b, o, none⟩
  newI : ∀ b o, G'.I b o → G.I b o ∨ w.heap.size ≤ b ∨ (G.who b).isSome = true
  newW : ∀ b L, G'.who b = some L → w.heap.size ≤ b ∨ (G.who b).isSome = true

theorem Step.refl (G : Ghost) (w : World) : Step G w G w :=
  ⟨rfl, rfl, rfl, Nat.le_refl _, fun _ _ _ => rfl, fun _ _ h => ⟨h, rfl⟩, fun _ _ h => .inl h, fun _ _ h => .inr (by simp [h])⟩

theorem Step.trans {G G' G'' : Ghost} {w w' w'' : World} (h : Step G w G' w') (k : Step G' w' G'' w'') : Step G w G'' w'' where
  os := k.os.trans h.os
  tape := k.tape.trans h.tape
  output := k.output.trans h.output
  size := Nat.le_trans h.size k.size
  old b hb hw := by
    have h1 : G'.who b = none := by
      cases hx : G'.who b with
      | none => rfl
      | some L => rcases h.newW b L hx with h2 | h2
                  · omega
                  · rw [hw] at h2; cases h2
    rw [k.old b (Nat.lt_of_lt_of_le hb h.size) h1, h.old b hb hw]
  imm b o hi := ⟨(k.imm b o (h.imm b o hi).1).1, ((k.imm b o (h.imm b o hi).1).2).trans (h.imm b o hi).2⟩
  newI b o hi := by
    rcases k.newI b o hi with h1 | h1 | h1
    · exact h.newI b o h1
    · exact .inr (.inl (Nat.le_trans h.size h1))
    · obtain ⟨L, hL⟩ := Option.isSome_iff_exists.1 h1
      exact .inr (h.newW b L hL)
  newW b L hL := by
    rcases k.newW b L hL with h1 | h1
    · exact .inl (Nat.le_trans h.size h1)
    · obtain ⟨L', hL'⟩ := Option.isSome_iff_exists.1 h1
      exact h.newW b L' hL'

/-- The state of a function that began with G0 in w0. -/
structure R (P : Program) (U : Univ) (N : Nat) (L0 : Nat → Nat) (G0 : Ghost) (w0 : World) (G : Ghost) (σ : Slots U) (a : Act) (w : World) : Prop where
  defers : a.defers = []
  size : N ≤ a.tmps.size
  small : N ≤ vbase
  slots : ∀ t, SlotOk P U G σ w t (σ t) (a.tmps.getD t undef)
  imm : ∀ b o, G.I b o → (w.cell? ⟨b, o, none⟩).isSome = true
  who : ∀ b L, G.who b = some L → b < w.heap.size
  step : Step G0 w0 G w
  loc : ∀ t, vbase ≤ t → G.loc t = G0.loc t
  lens : ∀ t cs, vbase ≤ t → σ t = .box cs → cs.length = L0 t
  rest : ∀ t cs, vbase ≤ t → σ t = .box cs → ∀ o, (o < (G.loc t).2 ∨ (G.loc t).2 + cs.length ≤ o) → w.cell? ⟨(G.loc t).1, o, none⟩ = w0.cell? ⟨(G.loc t).1, o, none⟩

/-- What one operation may do to what it does not name. -/
structure Ext (M : Nat × Option Nat → Prop) (G G' : Ghost) (σ σ' : Slots U) (w w' : World) : Prop where
  imm : ∀ b o, G.I b o → G'.I b o ∧ w'.cell? ⟨b, o, none⟩ = w.cell? ⟨b, o, none⟩
  own : ∀ b L, G.who b = some L → ¬ M L → G'.who b = some L ∧ w'.heap[b]? = w.heap[b]? ∧ ∀ o, G'.I b o → G.I b o
  loc : ∀ s, (σ s).owner = true → G'.loc s = G.loc s
  box : ∀ s cs, σ s = .box cs → ∃ cs', σ' s = .box cs'
  blk : ∀ s e x q, σ s = .bblk e x q → ∃ e' x', σ' s = .bblk e' x' q ∧ x'.length = x.length

theorem CellOk.mono {M : Nat × Option Nat → Prop} {G G' : Ghost} {σ σ' : Slots U} {w w' : World} (x : Ext M G G' σ σ' w w') {L : Nat × Option Nat} (hL : ¬ M L) {c : CV U.τ} {v : Value}
    (h : CellOk P U w G.I G.who L c v) : CellOk P U w' G'.I G'.who L c v := by
  rcases h with h | ⟨e, css, h1, h2, h3⟩
  · exact .inl (h.mono x.imm)
  · refine .inr ⟨e, css, h1, h2, ?_⟩
    rcases h3 with h3 | ⟨b, off, cap, h4, h5, h6, h7⟩
    · exact .inl h3
    · refine .inr ⟨b, off, cap, h4, h5, h6.mono x.imm, ?_⟩
      rcases h7 with h7 | ⟨h7, c, T, fz, h8, h9, h10, h11⟩
      · exact .inl h7
      · obtain ⟨k1, k2, k3⟩ := x.own b L h7 hL
        exact .inr ⟨k1, c, T, fz, k2.trans h8, h9, h10, fun o ho hh hi => h11 o ho hh (k3 o hi)⟩

theorem BoxRel.mono {M : Nat × Option Nat → Prop} {G G' : Ghost} {σ σ' : Slots U} {w w' : World} (x : Ext M G G' σ σ' w w') {s : Nat} (h0 : ¬ M (s, none)) (hi : ∀ i, ¬ M (s, some i)) {p : Nat × Nat} {cs : List (CV U.τ)}
    (h : BoxRel P U w G.I G.who s p cs) : BoxRel P U w' G'.I G'.who s p cs := by
  obtain ⟨k1, k2, k3⟩ := x.own p.1 (s, none) h.hwho h0
  obtain ⟨c, T, fz, h1, h2, h3, h4⟩ := h.row
  exact ⟨k1, fun o ho => h.himm o (k3 o ho), c, T, fz, k2.trans h1, h2, h3, fun i y hy => let ⟨u, a, b⟩ := h4 i y hy; ⟨u, a, b.mono x (hi i)⟩⟩

theorem BlkRel.mono {M : Nat × Option Nat → Prop} {G G' : Ghost} {σ σ' : Slots U} {w w' : World} (x : Ext M G G' σ σ' w w') {s : Nat} (h0 : ¬ M (s, none)) {p : Nat × Nat} {e : Nat} {y : List UInt8}
    (h : BlkRel P w G.I G.who s p e y) : BlkRel P w' G'.I G'.who s p e y := by
  obtain ⟨k1, k2, k3⟩ := x.own p.1 (s, none) h.hwho h0
  obtain ⟨c, T, fz, h1, h2, h3, h4⟩ := h.row
  exact ⟨k1, fun o ho => h.himm o (k3 o ho), h.sz, h.len, c, T, fz, k2.trans h1, h2, h3, h4⟩

theorem SlotOk.mono {M : Nat × Option Nat → Prop} {G G' : Ghost} {σ σ' : Slots U} {w w' : World} (x : Ext M G G' σ σ' w w') {t : Nat} (h0 : ¬ M (t, none)) (hi : ∀ i, ¬ M (t, some i)) {v : AV U.τ} {u : Value} (hv : v.owner = true → σ t = v)
    (h : SlotOk P U G σ w t v u) : SlotOk P U G' σ' w' t v u := by
  have I := x.imm
  cases v with
  | undef => trivial
  | one c =>
    cases c with
    | any => trivial
    | ref s off =>
      obtain ⟨⟨cs, h1⟩, h2⟩ := h
      refine ⟨x.box s cs h1, ?_⟩
      rw [x.loc s (by rw [h1]; rfl)]; exact h2
    | sref s =>
      obtain ⟨e, y, q, cap, h1, h2, h3, h4⟩ := h
      obtain ⟨e', y', k1, k2⟩ := x.blk s e y q h1
      refine ⟨e', y', q, cap, k1, ?_, by omega, fun hq => by rw [k2]; exact h4 hq⟩
      rw [x.loc s (by rw [h1]; rfl), k2]; exact h2
    | eref s i =>
      obtain ⟨⟨e, y, q, h1⟩, h2⟩ := h
      obtain ⟨e', y', k1, k2⟩ := x.blk s e y q h1
      refine ⟨⟨e', y', q, k1⟩, ?_⟩
      rw [x.loc s (by rw [h1]; rfl)]; exact h2
    | bool b => exact CellOk.mono x h0 h
    | int k n => exact CellOk.mono x h0 h
    | str s => exact CellOk.mono x h0 h
    | fn f => exact CellOk.mono x h0 h
    | sl e xs f => exact CellOk.mono x h0 h
    | bs e s f => exact CellOk.mono x h0 h
  | agg cs => exact ValOk.mono (a := true) h I
  | tup vs =>
    obtain ⟨us, h1, h2, h3⟩ := h
    exact ⟨us, h1, h2, fun j a cs hj => let ⟨y, p, q⟩ := h3 j a cs hj; ⟨y, p, q.mono I⟩⟩
  | box cs =>
    obtain ⟨h1, h2⟩ := h
    have hl := x.loc t (by rw [hv rfl]; rfl)
    refine ⟨fun ht => by rw [hl]; exact h1 ht, ?_⟩
    rw [hl]
    exact h2.mono x h0 hi
  | bblk e y q =>
    obtain ⟨h1, h2⟩ := h
    have hl := x.loc t (by rw [hv rfl]; rfl)
    refine ⟨fun ht => by rw [hl]; exact h1 ht, ?_⟩
    rw [hl]
    exact h2.mono x h0
  | im cs =>
    obtain ⟨b, off, h1, h2⟩ := h
    exact ⟨b, off, h1, fun j c hc => let ⟨a1, y, a2, a3⟩ := h2 j c hc; ⟨(I _ _ a1).1, y, by rw [(I _ _ a1).2]; exact a2, a3.mono I⟩⟩

/-- The general step. -/
theorem R.go {N : Nat} {L0 : Nat → Nat} {G0 : Ghost} {w0 : World} {G : Ghost} {σ : Slots U} {a : Act} {w : World} (r : R P U N L0 G0 w0 G σ a w) {M : Nat × Option Nat → Prop} {G' : Ghost} {σ' : Slots U} {a' : Act} {w' : World}
    (x : Ext M G G' σ σ' w w') (s : Step G w G' w') (hd : a'.defers = a.defers) (hs : a'.tmps.size = a.tmps.size)
    (hloc : ∀ t, vbase ≤ t → G'.loc t = G.loc t)
    (him : ∀ b o, G'.I b o → G.I b o ∨ (w'.cell? ⟨b, o, none⟩).isSome = true)
    (hwho : ∀ b L, G'.who b = some L → (∃ L', G.who b = some L') ∨ b < w'.heap.size)
    (hrest : ∀ t cs', vbase ≤ t → σ' t = .box cs' → ∃ cs, σ t = .box cs ∧ cs'.length = cs.length ∧ ∀ o, (o < (G.loc t).2 ∨ (G.loc t).2 + cs.length ≤ o) → w'.cell? ⟨(G.loc t).1, o, none⟩ = w.cell? ⟨(G.loc t).1, o, none⟩)
    (h : ∀ t, (σ' t = σ t ∧ a'.tmps.getD t undef = a.tmps.getD t undef ∧ ¬ M (t, none) ∧ ∀ i, ¬ M (t, some i)) ∨ SlotOk P U G' σ' w' t (σ' t) (a'.tmps.getD t undef)) :
    R P U N L0 G0 w0 G' σ' a' w' where
  defers := hd.trans r.defers
  size := by rw [hs]; exact r.size
  small := r.small
  slots t := by
    rcases h t with ⟨h1, h2, h3, h4⟩ | h1
    · rw [h1, h2]
      exact (r.slots t).mono x h3 h4 (fun _ => rfl)
    · exact h1
  imm b o hi := by
    rcases him b o hi with h1 | h1
    · rw [(x.imm b o h1).2]; exact r.imm b o h1
    · exact h1
  who b L hL := by
    rcases hwho b L hL with ⟨L', h1⟩ | h1
    · exact Nat.lt_of_lt_of_le (r.who b L' h1) s.size
    · exact h1
  step := r.step.trans s
  loc t ht := (hloc t ht).trans (r.loc t ht)
  lens t cs' ht hσ := by
    obtain ⟨cs, h1, h2, h3⟩ := hrest t cs' ht hσ
    rw [h2]; exact r.lens t cs ht h1
  rest t cs' ht hσ o ho := by
    obtain ⟨cs, h1, h2, h3⟩ := hrest t cs' ht hσ
    rw [hloc t ht] at ho ⊢
    rw [h3 o (by rw [← h2]; exact ho)]
    exact r.rest t cs ht h1 o (by rw [← h2]; exact ho)

end
end Go.VI
