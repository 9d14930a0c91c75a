import Derived.Test.YtblajikhleocpaaDoorVC
import Derived.Test.YtblajikhleocpaaDoorChecked
import Derived.KernelRfl
import Derived.Lib.LaidTab
import Derived.Lib.ItoaNum
set_option linter.unusedVariables false
set_option linter.unusedSimpArgs false
set_option maxRecDepth 1000000
set_option maxHeartbeats 4000000
namespace Go.VI
open Go Go.Proofs
def τ : Nat → Type
  | 9 => List UInt8
  | _ => Unit
def T_int : Ty τ := ⟨Int, false, [.int .i64], fun x => (x, ()), fun y => y.1, fun _ => rfl, .inr ⟨_, rfl⟩⟩
def T_bool : Ty τ := ⟨Bool, false, [.bool], fun x => (x, ()), fun y => y.1, fun _ => rfl, .inr ⟨_, rfl⟩⟩
def T_uint8 : Ty τ := ⟨Int, false, [.int .u8], fun x => (x, ()), fun y => y.1, fun _ => rfl, .inr ⟨_, rfl⟩⟩
def T_string : Ty τ := ⟨List UInt8, false, [.str], fun x => (x, ()), fun y => y.1, fun _ => rfl, .inr ⟨_, rfl⟩⟩
def T_list_string : Ty τ := ⟨List (List UInt8), false, [.sl 9], fun x => (x, ()), fun y => y.1, fun _ => rfl, .inr ⟨_, rfl⟩⟩
def enc : (e : Nat) → τ e → List (CV τ)
  | 9, x => T_string.enc false x
  | _, _ => []
def dec (e : Nat) (cs : List (CV τ)) : Option (τ e) :=
  match Nat.decEq e 9 with
  | .isTrue h => Eq.rec (motive := fun e _ => Option (τ e)) (show Option (τ 9) from T_string.dec false cs) h.symm
  | .isFalse _ =>
  none
/-- What is known of the world: two tables of the library. -/
def envW (w : World) : Prop := Lib.TabIs Tryd.prog w "internal/strconv.uint64pow10" .u64 Lib.pow10Tab ∧ ∃ c T fz, w.heap[3]? = some (.cells c T fz) ∧ c[15]? = some (.int .u8 4)
theorem envW_stable (w w' : World) (h : ∀ b, b < 4 → w'.heap[b]? = w.heap[b]?) : envW w → envW w' := by
  intro ⟨h1, c, T, fz, h2, h3⟩
  refine ⟨?_, c, T, fz, (h 3 (by decide)).trans h2, h3⟩
  have hg : Tryd.prog.globalNamed "internal/strconv.uint64pow10" = some 1 := by kernel_rfl
  unfold Lib.TabIs World.var? at h1 ⊢
  rw [hg] at h1 ⊢
  simp only [Option.bind_some] at h1 ⊢
  rw [h 1 (by decide)]
  exact h1
def U : Univ := { τ := τ, enc := enc, dec := dec, nb := 4, env := envW, stable := envW_stable }
theorem dec_ok (e : Nat) (cs : List (CV U.τ)) (x : U.τ e) (h : U.dec e cs = some x) : CsLe Tryd.prog U cs (U.enc e x) := by
  have h0 : dec e cs = some x := h
  unfold dec at h0
  cases hd9 : Nat.decEq e 9 with
  | isTrue k => subst k; simp only [hd9] at h0; exact Ty.univ (U := U) T_string h0
  | isFalse k =>
  simp only [hd9] at h0
  cases h0
noncomputable def bo_string : Nat := Tryd.prog.bytesOf 9
theorem univOk : UnivOk Tryd.prog U := ⟨dec_ok⟩
theorem mixed : Tryd.prog.follows .mixedOrders = true := by kernel_rfl
def fuel : Nat := 1125899906842624
abbrev OkE (e : Ent U) : Prop := EntOk Tryd.prog U e
theorem okN : ∀ e ∈ ([] : List (Ent U)), OkE e := fun _ h => by cases h
theorem okC {e : Ent U} {l : List (Ent U)} (h : OkE e) (hl : ∀ e ∈ l, OkE e) : ∀ x ∈ e :: l, OkE x := List.forall_mem_cons.2 ⟨h, hl⟩
theorem okF (es : List (Ent U)) (hes : ∀ e ∈ es, OkE e) (adv : Adv) (n f : Nat) (fn : Func) (hf : Tryd.prog.funcs[f]? = some fn) (h1 : (fn.name == "runtime.NumGoroutine") = false) (h2 : fn.body.isNone = false) (sg : Sig τ) : OkE ⟨f, sg, runFn (U := U) Tryd.prog es adv n fn sg⟩ := runFn_ok univOk mixed hes hf (callable hf h1 h2) sg
noncomputable def lp (Φ : Tab U) (ad : Adv) (fn : Func) (np : Nat) (sg : Sig τ) (n : Nat) (p : List Dir) (st : St U) : Option sg.B := evAt Tryd.prog Φ ad n (match fn.body with | some c => c | none => .skip) p (finOf (U := U) Tryd.prog fn np sg) (fun _ _ => none) (finOf (U := U) Tryd.prog fn np sg) st
end Go.VI
