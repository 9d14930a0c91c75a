import Derived.Test.YtnccbadmlgfmgaaGreatVC
import Derived.Test.YtnccbadmlgfmgaaGreatChecked
import Derived.KernelRfl
set_option linter.unusedVariables false
set_option linter.unusedSimpArgs false
set_option maxRecDepth 1000000
set_option maxHeartbeats 4000000
namespace Go.VI
open Go Go.Proofs
structure S_15_string where
  c0 : List UInt8
  c1 : List UInt8
  c2 : List UInt8
  c3 : List UInt8
  c4 : List UInt8
  c5 : List UInt8
  c6 : List UInt8
  c7 : List UInt8
  c8 : List UInt8
  c9 : List UInt8
  c10 : List UInt8
  c11 : List UInt8
  c12 : List UInt8
  c13 : List UInt8
  c14 : List UInt8
def τ : Nat → Type
  | 9 => List UInt8
  | _ => Unit
def T_int : Ty τ := ⟨Int, false, [.int .i64], fun x => (x, ()), fun y => y.1, fun _ => rfl, .inr ⟨_, rfl⟩⟩
def T_string : Ty τ := ⟨List UInt8, false, [.str], fun x => (x, ()), fun y => y.1, fun _ => rfl, .inr ⟨_, rfl⟩⟩
def T_list_string : Ty τ := ⟨List (List UInt8), false, [.sl 9], fun x => (x, ()), fun y => y.1, fun _ => rfl, .inr ⟨_, rfl⟩⟩
def T_15_string : Ty τ := ⟨S_15_string, true, [.str, .str, .str, .str, .str, .str, .str, .str, .str, .str, .str, .str, .str, .str, .str], fun x => (x.c0, x.c1, x.c2, x.c3, x.c4, x.c5, x.c6, x.c7, x.c8, x.c9, x.c10, x.c11, x.c12, x.c13, x.c14, ()), fun y => ⟨y.1, y.2.1, y.2.2.1, y.2.2.2.1, y.2.2.2.2.1, y.2.2.2.2.2.1, y.2.2.2.2.2.2.1, y.2.2.2.2.2.2.2.1, y.2.2.2.2.2.2.2.2.1, y.2.2.2.2.2.2.2.2.2.1, y.2.2.2.2.2.2.2.2.2.2.1, y.2.2.2.2.2.2.2.2.2.2.2.1, y.2.2.2.2.2.2.2.2.2.2.2.2.1, y.2.2.2.2.2.2.2.2.2.2.2.2.2.1, y.2.2.2.2.2.2.2.2.2.2.2.2.2.2.1⟩, fun _ => rfl, .inl rfl⟩
def enc : (e : Nat) → τ e → List (CV τ)
  | 9, x => T_string.enc false x
  | _, _ => []
def dec (e : Nat) (cs : List (CV τ)) : Option (τ e) :=
  match Nat.decEq e 9 with
  | .isTrue h => Eq.rec (motive := fun e _ => Option (τ e)) (show Option (τ 9) from T_string.dec false cs) h.symm
  | .isFalse _ =>
  none
def U : Univ := { τ := τ, enc := enc, dec := dec }
theorem dec_ok (e : Nat) (cs : List (CV U.τ)) (x : U.τ e) (h : U.dec e cs = some x) : CsLe Tryz.prog U cs (U.enc e x) := by
  have h0 : dec e cs = some x := h
  unfold dec at h0
  cases hd9 : Nat.decEq e 9 with
  | isTrue k => subst k; simp only [hd9] at h0; exact Ty.univ (U := U) T_string h0
  | isFalse k =>
  simp only [hd9] at h0
  cases h0
noncomputable def bo_string : Nat := Tryz.prog.bytesOf 9
theorem univOk : UnivOk Tryz.prog U := ⟨dec_ok⟩
theorem mixed : Tryz.prog.follows .mixedOrders = true := by kernel_rfl
def fuel : Nat := 1125899906842624
abbrev OkE (e : Ent U) : Prop := EntOk Tryz.prog U e
theorem okN : ∀ e ∈ ([] : List (Ent U)), OkE e := fun _ h => by cases h
theorem okC {e : Ent U} {l : List (Ent U)} (h : OkE e) (hl : ∀ e ∈ l, OkE e) : ∀ x ∈ e :: l, OkE x := List.forall_mem_cons.2 ⟨h, hl⟩
theorem okF (es : List (Ent U)) (hes : ∀ e ∈ es, OkE e) (adv : Adv) (n f : Nat) (fn : Func) (hf : Tryz.prog.funcs[f]? = some fn) (h1 : (fn.name == "runtime.NumGoroutine") = false) (h2 : fn.body.isNone = false) (sg : Sig τ) : OkE ⟨f, sg, runFn (U := U) Tryz.prog es adv n fn sg⟩ := runFn_ok univOk mixed hes hf (callable hf h1 h2) sg
noncomputable def lp (Φ : Tab U) (ad : Adv) (fn : Func) (np : Nat) (sg : Sig τ) (n : Nat) (p : List Dir) (st : St U) : Option sg.B := evAt Tryz.prog Φ ad n (match fn.body with | some c => c | none => .skip) p (finOf (U := U) Tryz.prog fn np sg) (fun _ _ => none) (finOf (U := U) Tryz.prog fn np sg) st
end Go.VI
