import Derived.Test.YtpapfbpefhcobaaV23
/-! Types: what an argument, a result, an element is, as plain data. -/
set_option linter.unusedVariables false
set_option linter.unusedSimpArgs false
namespace Go.VI
open Go

/-- The kind of a cell. -/
inductive FK where
  | int (k : IntKind)
  | bool
  | str
  | sl (e : Nat)
  | bs (e : Nat)
  | fn

def FK.den (τ : Nat → Type) : FK → Type
  | .int _ => Int
  | .bool => Bool
  | .str => List UInt8
  | .sl e => List (τ e)
  | .bs _ => List UInt8
  | .fn => Nat

def dens (τ : Nat → Type) : List FK → Type
  | [] => Unit
  | k :: r => k.den τ × dens τ r

/-- 'm': whether slices may be appended to (in a box that is lent). -/
def FK.enc {τ : Nat → Type} (m : Bool) : (k : FK) → k.den τ → CV τ
  | .int i, n => .int i n
  | .bool, b => .bool b
  | .str, s => .str s
  | .sl e, xs => .sl e xs (cond m .app .ro)
  | .bs e, s => .bs e s (cond m .app .ro)
  | .fn, f => .fn f

def encs {τ : Nat → Type} (m : Bool) : (ks : List FK) → dens τ ks → List (CV τ)
  | [], _ => []
  | k :: r, x => k.enc m x.1 :: encs m r x.2

def flOk (m : Bool) : Fl → Bool
  | .ro => !m
  | _ => true

def FK.dec {τ : Nat → Type} (m : Bool) : (k : FK) → CV τ → Option (k.den τ)
  | .int i, .int j n => cond (decide (i = j)) (some n) none
  | .bool, .bool b => some b
  | .str, .str s => some s
  | .sl e, .sl e2 xs f => cond (flOk m f) (match Nat.decEq e2 e with | .isTrue h => some (h ▸ xs) | .isFalse _ => none) none
  | .bs e, .bs e2 s f => cond (flOk m f && Nat.beq e2 e) (some s) none
  | .fn, .fn f => some f
  | _, _ => none

def both {α β : Type} (a : Option α) (b : Option β) : Option (α × β) := match a with | some x => (match b with | some y => some (x, y) | none => none) | none => none

theorem both_some {α β : Type} {a : Option α} {b : Option β} {r : α × β} (h : both a b = some r) : ∃ x y, a = some x ∧ b = some y ∧ r = (x, y) := by
  cases a with
  | none => cases h
  | some x =>
    cases b with
    | none => cases h
    | some y => injection h with h; exact ⟨x, y, rfl, rfl, h.symm⟩

def decsK {τ : Nat → Type} (m : Bool) : (ks : List FK) → List (CV τ) → Option (dens τ ks)
  | [] => fun cs => match cs with | [] => some () | _ => none
  | k :: r => fun cs => match cs with | c :: cs => both (k.dec m c) (decsK m r cs) | [] => none

structure Ty (τ : Nat → Type) where
  α : Type
  agg : Bool
  ks : List FK
  to : α → dens τ ks
  of : dens τ ks → α
  ok : ∀ y, to (of y) = y
  one : agg = true ∨ ∃ k, ks = [k]

def Ty.enc {τ : Nat → Type} (T : Ty τ) (m : Bool) (x : T.α) : List (CV τ) := encs m T.ks (T.to x)
def Ty.dec {τ : Nat → Type} (T : Ty τ) (m : Bool) (cs : List (CV τ)) : Option T.α := match decsK m T.ks cs with | some y => some (T.of y) | none => none

section
variable {P : Program} {U : Univ}

/-- Cell by cell, whatever holds of the first holds of the second; m: in a lent box. -/
def CLe (P : Program) (U : Univ) (m : Bool) (c c' : CV U.τ) : Prop :=
  ∀ w I who L u, (m = false → PC P U w I c u → PC P U w I c' u) ∧ (m = true → CellOk P U w I who L c u → CellOk P U w I who L c' u)

theorem CLe.refl (m : Bool) (c : CV U.τ) : CLe P U m c c := fun _ _ _ _ _ => ⟨fun _ h => h, fun _ h => h⟩

theorem slice_le {m : Bool} {c c' : CV U.τ} {e : Nat} {css : List (List (CV U.τ))} {f : Fl} (hc : cont c = some (e, css, f)) (hc' : cont c' = some (e, css, cond m .app .ro)) (hf : flOk m f = true) : CLe P U m c c' := by
  intro w I who L u
  refine ⟨fun hm h => ?_, fun hm h => ?_⟩
  · subst hm
    obtain ⟨_, h2, h3⟩ := h.slice hc
    rcases h3 with ⟨rfl, rfl⟩ | ⟨_, rfl, p, cap, rfl⟩ | ⟨b, off, cap, rfl, h4, h5, h6⟩
    · exact .nil _ e .ro hc' (by simp)
    · exact .emp _ e _ _ hc'
    · exact PC.of_cont hc' (by simp) h4 (by simp) h2 h6
  · subst hm
    have app : ∀ h2 : (css.length : Int) ≤ maxLenI, ((css = [] ∧ u = .slice none 0 0) ∨ ∃ b off cap, u = .slice (some ⟨b, off, none⟩) css.length cap ∧ css.length ≤ cap ∧ Cont P U w I b off (P.cellsOf e) css ∧ (cap = css.length ∨ (who b = some L ∧ Spare w I b (off + css.length * P.cellsOf e) (off + cap * P.cellsOf e)))) → CellOk P U w I who L c' u :=
      fun h2 h3 => .inr ⟨e, css, hc', h2, h3⟩
    rcases h with h | ⟨e1, css1, k1, k2, k3⟩
    · obtain ⟨hne, h2, h3⟩ := h.slice hc
      have hft : f = .tight := by
        cases f with
        | ro => cases hf
        | tight => rfl
        | app => exact absurd rfl hne
      refine app h2 ?_
      rcases h3 with h3 | ⟨h3, _⟩ | ⟨b, off, cap, h4, h5, h6, h7⟩
      · exact .inl h3
      · rw [hft] at h3; cases h3
      · exact .inr ⟨b, off, cap, h4, h5, h7, .inl (h6 hft)⟩
    · rw [hc] at k1
      simp only [Option.some.injEq, Prod.mk.injEq] at k1
      obtain ⟨rfl, rfl, _⟩ := k1
      exact app k2 k3

theorem FK.dec_le {m : Bool} : ∀ (k : FK) (c : CV U.τ) (x : k.den U.τ), k.dec m c = some x → CLe P U m c (k.enc m x) := by
  intro k c x h
  cases k with
  | int i =>
    cases c with
    | int j n =>
      simp only [FK.dec] at h
      cases hd : decide (i = j) with
      | false => rw [hd] at h; cases h
      | true =>
        rw [hd] at h
        injection h with h; subst h
        have := of_decide_eq_true hd
        subst this
        exact CLe.refl _ _
    | _ => cases h
  | bool => cases c with
    | bool b => injection h with h; subst h; exact CLe.refl _ _
    | _ => cases h
  | str => cases c with
    | str s => injection h with h; subst h; exact CLe.refl _ _
    | _ => cases h
  | fn => cases c with
    | fn s => injection h with h; subst h; exact CLe.refl _ _
    | _ => cases h
  | sl e => cases c with
    | sl e2 xs f =>
      simp only [FK.dec] at h
      cases hf : flOk m f with
      | false => rw [hf] at h; cases h
      | true =>
        rw [hf, cond_true] at h
        cases hd : Nat.decEq e2 e with
        | isFalse _ => rw [hd] at h; cases h
        | isTrue he =>
          rw [hd] at h
          subst he
          injection h with h; subst h
          exact slice_le (e := e2) (css := xs.map (U.enc e2)) (f := f) rfl rfl hf
    | _ => cases h
  | bs e => cases c with
    | bs e2 s f =>
      simp only [FK.dec] at h
      cases hf : (flOk m f && Nat.beq e2 e) with
      | false => rw [hf] at h; cases h
      | true =>
        rw [hf, cond_true] at h
        simp only [Bool.and_eq_true] at hf
        have he := Nat.eq_of_beq_eq_true hf.2
        subst he
        injection h with h; subst h
        exact slice_le (e := e2) (css := s.map fun b => [.int .u8 b.toNat]) (f := f) rfl rfl hf.1
    | _ => cases h

def CsLe' (P : Program) (U : Univ) (m : Bool) (cs cs' : List (CV U.τ)) : Prop :=
  cs'.length = cs.length ∧ ∀ (j : Nat) c c', cs[j]? = some c → cs'[j]? = some c' → CLe P U m c c'

theorem decsK_le {m : Bool} : ∀ (ks : List FK) (cs : List (CV U.τ)) (x : dens U.τ ks), decsK m ks cs = some x → CsLe' P U m cs (encs m ks x)
  | [], [], x, h => ⟨rfl, fun j c c' h => by have h3 : (none : Option (CV U.τ)) = some c := h; cases h3⟩
  | k :: r, c :: cs, x, h => by
    obtain ⟨a, b, h1, h2, rfl⟩ := both_some h
    · skip
      obtain ⟨g1, g2⟩ := decsK_le r cs b h2
      refine ⟨congrArg Nat.succ g1, fun j d d' hd hd' => ?_⟩
      cases j with
      | zero =>
        have e1 : c = d := by injection hd
        have e2 : k.enc m a = d' := by injection hd'
        subst e1; subst e2; exact FK.dec_le k c a h1
      | succ j => exact g2 j d d' hd hd'
  | [], _ :: _, x, h => by cases h
  | k :: r, [], x, h => by cases h

theorem Ty.dec_le (T : Ty U.τ) {m : Bool} {cs : List (CV U.τ)} {x : T.α} (h : T.dec m cs = some x) : CsLe' P U m cs (T.enc m x) := by
  unfold Ty.dec at h
  cases hd : decsK m T.ks cs with
  | none => rw [hd] at h; cases h
  | some y =>
    rw [hd] at h
    injection h with h; subst h
    unfold Ty.enc
    rw [T.ok]
    exact decsK_le _ _ _ hd

theorem Ty.univ (T : Ty U.τ) {cs : List (CV U.τ)} {x : T.α} (h : T.dec false cs = some x) : CsLe P U cs (T.enc false x) := by
  obtain ⟨h1, h2⟩ := T.dec_le (P := P) h
  exact ⟨h1, fun j c c' hc hc' w I u hp => (h2 j c c' hc hc' w I (fun _ => none) (0, none) u).1 rfl hp⟩

/-! ### signatures -/
structure Sig (τ : Nat → Type) where
  ps : List (Bool × Ty τ)
  rs : List (Ty τ)

def prodP {τ : Nat → Type} : List (Bool × Ty τ) → Type
  | [] => Unit
  | p :: r => p.2.α × prodP r

def prodR {τ : Nat → Type} : List (Ty τ) → Type
  | [] => Unit
  | T :: r => T.α × prodR r

/-- What the lent boxes hold. -/
def boxTys {τ : Nat → Type} : List (Bool × Ty τ) → List (Ty τ)
  | [] => []
  | (true, T) :: r => T :: boxTys r
  | (false, _) :: r => boxTys r

abbrev Sig.A {τ : Nat → Type} (s : Sig τ) : Type := prodP s.ps
abbrev Sig.B {τ : Nat → Type} (s : Sig τ) : Type := prodR s.rs × prodR (boxTys s.ps)

def argOf {τ : Nat → Type} (p : Bool × Ty τ) (x : p.2.α) : Arg τ := cond p.1 (.ptr (p.2.enc true x)) (.val p.2.agg (p.2.enc false x))

def encArgs {τ : Nat → Type} : (ps : List (Bool × Ty τ)) → prodP ps → List (Arg τ)
  | [], _ => []
  | p :: r, x => argOf p x.1 :: encArgs r x.2

def argDec {τ : Nat → Type} (p : Bool × Ty τ) (a : Arg τ) : Option p.2.α :=
  match p.1, a with
  | true, .ptr cs => p.2.dec true cs
  | false, .val ag cs => cond (ag == p.2.agg) (p.2.dec false cs) none
  | _, _ => none

def decArgs {τ : Nat → Type} : (ps : List (Bool × Ty τ)) → List (Arg τ) → Option (prodP ps)
  | [] => fun as => match as with | [] => some () | _ => none
  | p :: r => fun as => match as with | a :: as => both (argDec p a) (decArgs r as) | [] => none

def encRs {τ : Nat → Type} : (l : List (Ty τ)) → prodR l → List (Bool × List (CV τ))
  | [], _ => []
  | T :: r, x => (T.agg, T.enc false x.1) :: encRs r x.2

def decRs {τ : Nat → Type} : (l : List (Ty τ)) → List (Bool × List (CV τ)) → Option (prodR l)
  | [] => fun cs => match cs with | [] => some () | _ => none
  | T :: r => fun cs => match cs with | c :: cs => both (cond (c.1 == T.agg) (T.dec false c.2) none) (decRs r cs) | [] => none

def encBs {τ : Nat → Type} : (l : List (Ty τ)) → prodR l → List (List (CV τ))
  | [], _ => []
  | T :: r, x => T.enc true x.1 :: encBs r x.2

def decBs {τ : Nat → Type} : (l : List (Ty τ)) → List (List (CV τ)) → Option (prodR l)
  | [] => fun cs => match cs with | [] => some () | _ => none
  | T :: r => fun cs => match cs with | c :: cs => both (T.dec true c) (decBs r cs) | [] => none

def unRet {τ : Nat → Type} : AV τ → Option (List (Bool × List (CV τ)))
  | .one c => some [(false, [c])]
  | .agg cs => some [(true, cs)]
  | .tup [] => some []
  | .tup (x :: y :: r) => some (x :: y :: r)
  | _ => none

def reRet {τ : Nat → Type} (vs : List (Bool × List (CV τ))) : AV τ :=
  match vs with
  | [(true, cs)] => .agg cs
  | [(false, [c])] => .one c
  | vs => .tup vs

def Sig.out {τ : Nat → Type} (s : Sig τ) (r : s.B) : Out τ := ⟨reRet (encRs s.rs r.1), encBs (boxTys s.ps) r.2⟩

def Sig.decOut {τ : Nat → Type} (s : Sig τ) (o : Out τ) : Option s.B :=
  match unRet o.ret with
  | some vs =>
    both (decRs s.rs vs) (decBs (boxTys s.ps) o.boxes)
  | none => none

/-- A function in a table. -/
structure Ent (U : Univ) where
  f : Nat
  sig : Sig U.τ
  G : sig.A → Option sig.B

def tab : List (Ent U) → Tab U
  | [] => fun _ _ _ _ => none
  | e :: es => fun R f as k => cond (Nat.beq f e.f) (match decArgs e.sig.ps as with | some x => (e.G x).bind fun r => k (e.sig.out r) | none => none) (tab es R f as k)

def EntOk (P : Program) (U : Univ) (e : Ent U) : Prop := ∀ x r, e.G x = some r → CallOk P U e.f (encArgs e.sig.ps x) (e.sig.out r)

/-- A function by the evaluator. -/
def runFn (P : Program) (es : List (Ent U)) (adv : Adv) (n : Nat) (fn : Func) (s : Sig U.τ) (x : s.A) : Option s.B := evFn P (tab es) adv n fn (encArgs s.ps x) s.decOut

/-! ### they are sound -/
theorem ValOk.le {w : World} {I : Nat → Nat → Prop} {a : Bool} {cs cs' : List (CV U.τ)} {u : Value} (h : ValOk P U w I a cs u) (hl : CsLe' P U false cs cs') : ValOk P U w I a cs' u := by
  cases a with
  | true =>
    obtain ⟨us, h1, h2, h3⟩ := h
    refine ⟨us, h1, by rw [h2, hl.1], fun j c hc => ?_⟩
    have hj : j < cs.length := by rw [← hl.1]; exact (List.getElem?_eq_some_iff.1 hc).1
    have hd : cs[j]? = some (cs[j]'hj) := List.getElem?_eq_getElem hj
    obtain ⟨x, k1, k2⟩ := h3 j _ hd
    exact ⟨x, k1, (hl.2 j _ c hd hc w I (fun _ => none) (0, none) x).1 rfl k2⟩
  | false =>
    obtain ⟨c, rfl, h2⟩ := h
    match cs', hl with
    | [c'], hl => exact ⟨c', rfl, (hl.2 0 c c' rfl rfl w I (fun _ => none) (0, none) u).1 rfl h2⟩
    | [], hl => exact absurd hl.1 (by simp)
    | _ :: _ :: _, hl => exact absurd hl.1 (by simp)

theorem BoxRel.le {w : World} {I : Nat → Nat → Prop} {who : Nat → Option (Nat × Option Nat)} {s : Nat} {p : Nat × Nat} {cs cs' : List (CV U.τ)} (h : BoxRel P U w I who s p cs) (hl : CsLe' P U true cs cs') : BoxRel P U w I who s p cs' := by
  refine ⟨h.hwho, h.himm, ?_⟩
  obtain ⟨c, T, fz, h1, h2, h3, h4⟩ := h.row
  refine ⟨c, T, fz, h1, by rw [hl.1]; exact h2, h3, fun i x hx => ?_⟩
  have hj : i < cs.length := by rw [← hl.1]; exact (List.getElem?_eq_some_iff.1 hx).1
  have hd : cs[i]? = some (cs[i]'hj) := List.getElem?_eq_getElem hj
  obtain ⟨u, k1, k2⟩ := h4 i _ hd
  exact ⟨u, k1, (hl.2 i _ x hd hx w I who (s, some i) u).2 rfl k2⟩

theorem decArgs_ok {w : World} {I : Nat → Nat → Prop} {who : Nat → Option (Nat × Option Nat)} {loc : Nat → Nat × Nat} : ∀ (ps : List (Bool × Ty U.τ)) (as : List (Arg U.τ)) (us : List Value) (j : Nat) (x : prodP ps), decArgs ps as = some x → ArgsRel P U w I who loc as us j → ArgsRel P U w I who loc (encArgs ps x) us j
  | [], [], us, j, x, h, r => r
  | p :: ps, a :: as, us, j, x, h, r => by
    obtain ⟨y, z, h1, h2, rfl⟩ := both_some h
    · skip
      obtain ⟨b, T⟩ := p
      cases r with
      | val ag cs u as us j k1 k2 =>
        cases b with
        | true => cases h1
        | false =>
          have e2 : argDec (false, T) (.val ag cs) = cond (ag == T.agg) (T.dec false cs) none := rfl
          rw [e2] at h1
          cases he : (ag == T.agg) with
          | false => rw [he] at h1; cases h1
          | true =>
            rw [he, cond_true] at h1
            have he := eq_of_beq he
            subst he
            exact .val _ _ _ _ _ _ (k1.le (T.dec_le h1)) (decArgs_ok ps as us j z h2 k2)
      | ptr cs as us j k1 k2 =>
        cases b with
        | false => cases h1
        | true => exact .ptr _ _ _ _ (k1.le (T.dec_le h1)) (decArgs_ok ps as us (j + 1) z h2 k2)
  | [], _ :: _, us, j, x, h, r => by cases h
  | _ :: _, [], us, j, x, h, r => by cases h

/-- The boxes that are lent, before and after. -/
theorem decArgs_ptrs (P : Program) : ∀ (ps : List (Bool × Ty U.τ)) (as : List (Arg U.τ)) (x : prodP ps), decArgs ps as = some x → (ptrs (encArgs ps x)).map List.length = (ptrs as).map List.length
  | [], [], x, h => rfl
  | p :: ps, a :: as, x, h => by
    obtain ⟨y, z, h1, h2, rfl⟩ := both_some h
    · skip
      have ih := decArgs_ptrs P ps as z h2
      obtain ⟨b, T⟩ := p
      cases a with
      | val ag cs =>
        cases b with
        | true => cases h1
        | false => exact ih
      | ptr cs =>
        cases b with
        | false => cases h1
        | true =>
          have k := (T.dec_le (P := P) h1).1
          show (ptrs (argOf (true, T) y :: encArgs ps z)).map List.length = _
          simp only [argOf, cond_true, ptrs, List.map_cons]
          rw [ih]
          congr 1
  | [], _ :: _, x, h => by cases h
  | _ :: _, [], x, h => by cases h

theorem tab_sound : ∀ (es : List (Ent U)), (∀ e ∈ es, EntOk P U e) → SoundTab P U (tab es)
  | [], _ => fun R f as k r h => by cases h
  | e :: es, hes => fun R f as k r h => by
    have eq : tab (e :: es) R f as k = cond (Nat.beq f e.f) (match decArgs e.sig.ps as with | some x => (e.G x).bind fun r => k (e.sig.out r) | none => none) (tab es R f as k) := rfl
    rw [eq] at h
    clear eq
    cases hf : Nat.beq f e.f with
    | false =>
      rw [hf] at h
      exact tab_sound es (fun e he => hes e (List.mem_cons_of_mem _ he)) R f as k r h
    | true =>
      rw [hf, cond_true] at h
      have hf := Nat.eq_of_beq_eq_true hf
      subst hf
      split at h
      · rename_i x hx
        cases hG : e.G x with
        | none => rw [hG] at h; cases h
        | some y =>
          rw [hG] at h
          obtain ⟨c1, c2⟩ := hes e (List.mem_cons_self ..) x y hG
          have hp := decArgs_ptrs P e.sig.ps as x hx
          refine ⟨e.sig.out y, ⟨c1, fun G0 w vs ha hi hw => ?_⟩, h⟩
          refine (c2 G0 w vs (decArgs_ok _ _ _ _ _ hx ha) hi hw).mono fun e' w' hh => ?_
          obtain ⟨u, G', a1, a2, a3, a4, a5, a6, a7, a8⟩ := hh
          have hlen : (ptrs (encArgs e.sig.ps x)).length = (ptrs as).length := by simpa using congrArg List.length hp
          refine ⟨u, G', a1, a2, a3, a4.trans hlen, a5, fun j cs hj => ?_, a7, a8⟩
          have hj2 : j < (ptrs (encArgs e.sig.ps x)).length := by rw [hlen]; exact (List.getElem?_eq_some_iff.1 hj).1
          have hd : (ptrs (encArgs e.sig.ps x))[j]? = some ((ptrs (encArgs e.sig.ps x))[j]'hj2) := List.getElem?_eq_getElem hj2
          have hl : ((ptrs (encArgs e.sig.ps x))[j]'hj2).length = cs.length := by
            have := congrArg (fun l => l[j]?) hp
            simp only [List.getElem?_map, hd, hj, Option.map_some, Option.some.injEq] at this
            exact this
          have := a6 j _ hd
          rw [hl] at this
          exact this
      · cases h

theorem decRs_ok : ∀ (l : List (Ty U.τ)) (vs : List (Bool × List (CV U.τ))) (x : prodR l), decRs l vs = some x →
    (encRs l x).length = vs.length ∧ ∀ (j : Nat) a cs a' cs', vs[j]? = some (a, cs) → (encRs l x)[j]? = some (a', cs') → a' = a ∧ CsLe' P U false cs cs'
  | [], [], x, h => ⟨rfl, fun j a cs a' cs' h _ => by have h3 : (none : Option (Bool × List (CV U.τ))) = some (a, cs) := h; cases h3⟩
  | T :: l, c :: vs, x, h => by
    obtain ⟨y, z, h1, h2, rfl⟩ := both_some h
    · skip
      obtain ⟨g1, g2⟩ := decRs_ok l vs z h2
      refine ⟨congrArg Nat.succ g1, fun j a cs a' cs' hd hd' => ?_⟩
      cases j with
      | zero =>
        cases he : (c.1 == T.agg) with
        | false => rw [he] at h1; cases h1
        | true =>
          rw [he, cond_true] at h1
          have e1 : c = (a, cs) := by injection hd
          have e2 : (T.agg, T.enc false y) = (a', cs') := by injection hd'
          injection e2 with e2 e3
          subst e1; subst e2; subst e3
          exact ⟨(eq_of_beq he).symm, T.dec_le h1⟩
      | succ j => exact g2 j a cs a' cs' hd hd'
  | [], _ :: _, x, h => by cases h
  | _ :: _, [], x, h => by cases h

theorem decBs_ok : ∀ (l : List (Ty U.τ)) (vs : List (List (CV U.τ))) (x : prodR l), decBs l vs = some x →
    (encBs l x).length = vs.length ∧ ∀ (j : Nat) cs cs', vs[j]? = some cs → (encBs l x)[j]? = some cs' → CsLe' P U true cs cs'
  | [], [], x, h => ⟨rfl, fun j cs cs' h _ => by have h3 : (none : Option (List (CV U.τ))) = some cs := h; cases h3⟩
  | T :: l, c :: vs, x, h => by
    obtain ⟨y, z, h1, h2, rfl⟩ := both_some h
    · skip
      obtain ⟨g1, g2⟩ := decBs_ok l vs z h2
      refine ⟨congrArg Nat.succ g1, fun j cs cs' hd hd' => ?_⟩
      cases j with
      | zero =>
        have e1 : c = cs := by injection hd
        have e2 : T.enc true y = cs' := by injection hd'
        subst e1; subst e2
        exact T.dec_le h1
      | succ j => exact g2 j cs cs' hd hd'
  | [], _ :: _, x, h => by cases h
  | _ :: _, [], x, h => by cases h

theorem reRet_two (x y : Bool × List (CV U.τ)) (r : List (Bool × List (CV U.τ))) : reRet (x :: y :: r) = .tup (x :: y :: r) := by
  obtain ⟨a, c⟩ := x
  cases a with
  | true => rfl
  | false =>
    match c with
    | [] => rfl
    | [_] => rfl
    | _ :: _ :: _ => rfl

theorem reRet_ok {w : World} {I : Nat → Nat → Prop} {v : AV U.τ} {u : Value} (h : RetOk P U w I v u) {vs : List (Bool × List (CV U.τ))} (hv : unRet v = some vs) (l : List (Ty U.τ)) (x : prodR l) (hx : decRs l vs = some x) : RetOk P U w I (reRet (encRs l x)) u := by
  obtain ⟨g1, g2⟩ := decRs_ok (P := P) l vs x hx
  generalize hq : encRs l x = qs at *
  cases v with
  | one c =>
    injection hv with hv; subst hv
    match qs, g1 with
    | [(a, cs)], _ =>
      obtain ⟨rfl, k2⟩ := g2 0 false [c] a cs rfl rfl
      match cs, k2 with
      | [c'], k2 => exact (k2.2 0 c c' rfl rfl w I (fun _ => none) (0, none) u).1 rfl h
      | [], k2 => exact absurd k2.1 (by simp)
      | _ :: _ :: _, k2 => exact absurd k2.1 (by simp)
  | agg cs0 =>
    injection hv with hv; subst hv
    match qs, g1 with
    | [(a, cs)], _ =>
      obtain ⟨rfl, k2⟩ := g2 0 true cs0 a cs rfl rfl
      exact ValOk.le (a := true) h k2
  | tup ts =>
    have hr : ts = vs ∧ reRet qs = .tup qs := by
      match ts, hv with
      | [], hv => injection hv with hv; subst hv; match qs, g1 with | [], _ => exact ⟨rfl, rfl⟩
      | _ :: _ :: _, hv => injection hv with hv; subst hv; match qs, g1 with | _ :: _ :: _, _ => exact ⟨rfl, reRet_two _ _ _⟩
    obtain ⟨rfl, hr⟩ := hr
    rw [hr]
    obtain ⟨us, k1, k2, k3⟩ := h
    refine ⟨us, k1, by rw [k2, g1], fun j a cs hj => ?_⟩
    have hjl : j < ts.length := by rw [← g1]; exact (List.getElem?_eq_some_iff.1 hj).1
    have hd : ts[j]? = some ((ts[j]'hjl).1, (ts[j]'hjl).2) := List.getElem?_eq_getElem hjl
    obtain ⟨y, m1, m2⟩ := k3 j _ _ hd
    obtain ⟨rfl, n2⟩ := g2 j _ _ a cs hd hj
    exact ⟨y, m1, m2.le n2⟩
  | _ => cases hv

theorem decOut_ok {f : Nat} {as : List (Arg U.τ)} {o : Out U.τ} (h : CallOk P U f as o) {s : Sig U.τ} {r : s.B} (hr : s.decOut o = some r) : CallOk P U f as (s.out r) := by
  obtain ⟨h1, h2⟩ := h
  unfold Sig.decOut at hr
  split at hr
  · rename_i vs hv
    obtain ⟨x, y, hx, hy, rfl⟩ := both_some hr
    · skip
      obtain ⟨b1, b2⟩ := decBs_ok (P := P) _ _ _ hy
      refine ⟨h1, fun G0 w us ha hi hw => (h2 G0 w us ha hi hw).mono fun e w' hh => ?_⟩
      obtain ⟨u, G', a1, a2, a3, a4, a5, a6, a7, a8⟩ := hh
      refine ⟨u, G', a1, a2, reRet_ok a3 hv _ _ hx, b1.trans a4, fun j cs hj => ?_, fun j cs hj => ?_, a7, a8⟩
      · have hjl : j < o.boxes.length := by rw [← b1]; exact (List.getElem?_eq_some_iff.1 hj).1
        have hd : o.boxes[j]? = some (o.boxes[j]'hjl) := List.getElem?_eq_getElem hjl
        exact (a5 j _ hd).le (b2 j _ _ hd hj)
      · obtain ⟨⟨l, k1, k2⟩, k3⟩ := a6 j cs hj
        have hjl : j < (encBs (boxTys s.ps) y).length := by rw [b1]; exact (List.getElem?_eq_some_iff.1 k1).1
        have hd : (encBs (boxTys s.ps) y)[j]? = some ((encBs (boxTys s.ps) y)[j]'hjl) := List.getElem?_eq_getElem hjl
        exact ⟨⟨_, hd, by rw [(b2 j _ _ k1 hd).1, k2]⟩, k3⟩
  · cases hr

/-- A function by the evaluator may stand in a table. -/
theorem runFn_ok (hU : UnivOk P U) (hm : P.follows .mixedOrders = true) {es : List (Ent U)} (hes : ∀ e ∈ es, EntOk P U e) {adv : Adv} {n f : Nat} {fn : Func} (hf : P.funcs[f]? = some fn)
    (hcall : ∀ vs w, (callFunc f vs).run P w = .ok (.enter f vs) w) (s : Sig U.τ) : EntOk P U ⟨f, s, runFn P es adv n fn s⟩ := by
  intro x r h
  obtain ⟨o, h1, h2⟩ := evFn_sound hU (tab_sound es hes) hm hf hcall h
  exact decOut_ok h1 h2

end
end Go.VI
