import Derived.Test.YtojlppofmjkmhaaDoorGVC
import Derived.Test.YtojlppofmjkmhaaDoorChecked
import Derived.KernelRfl
import Derived.Lib.LaidTab
import Derived.Lib.ItoaNum
set_option linter.unusedVariables false
set_option linter.unusedSimpArgs false
set_option maxRecDepth 1000000
set_option maxHeartbeats 4000000
namespace Go.VI
open Go Go.Proofs
structure S_api_Dest where
  addr : List UInt8
  seq : Int
structure S_api_Sub where
  type_ : Int
  data : List UInt8
structure S_api_Msg where
  kind : Int
  cmd : Int
  ver : Int
  auth : List UInt8
  family : Int
  ae : Int
  prefix_ : List UInt8
  plen : Int
  tag : Int
  next : List UInt8
  metric : Int
  id : List UInt8
  seq : Int
  seq2 : Int
  interval : Int
  flags : Int
  hops : Int
  nonce : Int
  cost : Int
  addr : List UInt8
  orig : List UInt8
  list : List S_api_Dest
  type_ : Int
  data : List UInt8
  subs : List S_api_Sub
structure S_15_string where
  c0 : List UInt8
  c1 : List UInt8
  c2 : List UInt8
  c3 : List UInt8
  c4 : List UInt8
  c5 : List UInt8
  c6 : List UInt8
  c7 : List UInt8
  c8 : List UInt8
  c9 : List UInt8
  c10 : List UInt8
  c11 : List UInt8
  c12 : List UInt8
  c13 : List UInt8
  c14 : List UInt8
structure S_msg_plain where
  kind : Int
  cmd : Int
  ver : Int
  family : Int
  ae : Int
  plen : Int
  tag : Int
  metric : Int
  seq : Int
  seq2 : Int
  interval : Int
  flags : Int
  hops : Int
  nonce : Int
  cost : Int
  typ : Int
  auth : List UInt8
  prefix_ : List UInt8
  next : List UInt8
  id : List UInt8
  addr : List UInt8
  orig : List UInt8
  data : List UInt8
def τ : Nat → Type
  | 3 => Int
  | 9 => List UInt8
  | 38 => S_api_Dest
  | 40 => S_api_Sub
  | _ => Unit
def T_int : Ty τ := ⟨Int, false, [.int .i64], fun x => (x, ()), fun y => y.1, fun _ => rfl, .inr ⟨_, rfl⟩⟩
def T_bool : Ty τ := ⟨Bool, false, [.bool], fun x => (x, ()), fun y => y.1, fun _ => rfl, .inr ⟨_, rfl⟩⟩
def T_uint8 : Ty τ := ⟨Int, false, [.int .u8], fun x => (x, ()), fun y => y.1, fun _ => rfl, .inr ⟨_, rfl⟩⟩
def T_string : Ty τ := ⟨List UInt8, false, [.str], fun x => (x, ()), fun y => y.1, fun _ => rfl, .inr ⟨_, rfl⟩⟩
def T_list_api_Dest : Ty τ := ⟨List S_api_Dest, false, [.sl 38], fun x => (x, ()), fun y => y.1, fun _ => rfl, .inr ⟨_, rfl⟩⟩
def T_list_api_Sub : Ty τ := ⟨List S_api_Sub, false, [.sl 40], fun x => (x, ()), fun y => y.1, fun _ => rfl, .inr ⟨_, rfl⟩⟩
def T_api_Msg : Ty τ := ⟨S_api_Msg, true, [.int .i64, .int .i64, .int .i64, .str, .int .i64, .int .i64, .str, .int .i64, .int .i64, .str, .int .i64, .str, .int .i64, .int .i64, .int .i64, .int .i64, .int .i64, .int .i64, .int .i64, .str, .str, .sl 38, .int .i64, .str, .sl 40], fun x => (x.kind, x.cmd, x.ver, x.auth, x.family, x.ae, x.prefix_, x.plen, x.tag, x.next, x.metric, x.id, x.seq, x.seq2, x.interval, x.flags, x.hops, x.nonce, x.cost, x.addr, x.orig, x.list, x.type_, x.data, x.subs, ()), fun y => ⟨y.1, y.2.1, y.2.2.1, y.2.2.2.1, y.2.2.2.2.1, y.2.2.2.2.2.1, y.2.2.2.2.2.2.1, y.2.2.2.2.2.2.2.1, y.2.2.2.2.2.2.2.2.1, y.2.2.2.2.2.2.2.2.2.1, y.2.2.2.2.2.2.2.2.2.2.1, y.2.2.2.2.2.2.2.2.2.2.2.1, y.2.2.2.2.2.2.2.2.2.2.2.2.1, y.2.2.2.2.2.2.2.2.2.2.2.2.2.1, y.2.2.2.2.2.2.2.2.2.2.2.2.2.2.1, y.2.2.2.2.2.2.2.2.2.2.2.2.2.2.2.1, y.2.2.2.2.2.2.2.2.2.2.2.2.2.2.2.2.1, y.2.2.2.2.2.2.2.2.2.2.2.2.2.2.2.2.2.1, y.2.2.2.2.2.2.2.2.2.2.2.2.2.2.2.2.2.2.1, y.2.2.2.2.2.2.2.2.2.2.2.2.2.2.2.2.2.2.2.1, y.2.2.2.2.2.2.2.2.2.2.2.2.2.2.2.2.2.2.2.2.1, y.2.2.2.2.2.2.2.2.2.2.2.2.2.2.2.2.2.2.2.2.2.1, y.2.2.2.2.2.2.2.2.2.2.2.2.2.2.2.2.2.2.2.2.2.2.1, y.2.2.2.2.2.2.2.2.2.2.2.2.2.2.2.2.2.2.2.2.2.2.2.1, y.2.2.2.2.2.2.2.2.2.2.2.2.2.2.2.2.2.2.2.2.2.2.2.2.1⟩, fun _ => rfl, .inl rfl⟩
def T_api_Dest : Ty τ := ⟨S_api_Dest, true, [.str, .int .i64], fun x => (x.addr, x.seq, ()), fun y => ⟨y.1, y.2.1⟩, fun _ => rfl, .inl rfl⟩
def T_api_Sub : Ty τ := ⟨S_api_Sub, true, [.int .i64, .str], fun x => (x.type_, x.data, ()), fun y => ⟨y.1, y.2.1⟩, fun _ => rfl, .inl rfl⟩
def T_15_string : Ty τ := ⟨S_15_string, true, [.str, .str, .str, .str, .str, .str, .str, .str, .str, .str, .str, .str, .str, .str, .str], fun x => (x.c0, x.c1, x.c2, x.c3, x.c4, x.c5, x.c6, x.c7, x.c8, x.c9, x.c10, x.c11, x.c12, x.c13, x.c14, ()), fun y => ⟨y.1, y.2.1, y.2.2.1, y.2.2.2.1, y.2.2.2.2.1, y.2.2.2.2.2.1, y.2.2.2.2.2.2.1, y.2.2.2.2.2.2.2.1, y.2.2.2.2.2.2.2.2.1, y.2.2.2.2.2.2.2.2.2.1, y.2.2.2.2.2.2.2.2.2.2.1, y.2.2.2.2.2.2.2.2.2.2.2.1, y.2.2.2.2.2.2.2.2.2.2.2.2.1, y.2.2.2.2.2.2.2.2.2.2.2.2.2.1, y.2.2.2.2.2.2.2.2.2.2.2.2.2.2.1⟩, fun _ => rfl, .inl rfl⟩
def T_list_string : Ty τ := ⟨List (List UInt8), false, [.sl 9], fun x => (x, ()), fun y => y.1, fun _ => rfl, .inr ⟨_, rfl⟩⟩
def T_msg_plain : Ty τ := ⟨S_msg_plain, true, [.int .i64, .int .i64, .int .i64, .int .i64, .int .i64, .int .i64, .int .i64, .int .i64, .int .i64, .int .i64, .int .i64, .int .i64, .int .i64, .int .i64, .int .i64, .int .i64, .str, .str, .str, .str, .str, .str, .str], fun x => (x.kind, x.cmd, x.ver, x.family, x.ae, x.plen, x.tag, x.metric, x.seq, x.seq2, x.interval, x.flags, x.hops, x.nonce, x.cost, x.typ, x.auth, x.prefix_, x.next, x.id, x.addr, x.orig, x.data, ()), fun y => ⟨y.1, y.2.1, y.2.2.1, y.2.2.2.1, y.2.2.2.2.1, y.2.2.2.2.2.1, y.2.2.2.2.2.2.1, y.2.2.2.2.2.2.2.1, y.2.2.2.2.2.2.2.2.1, y.2.2.2.2.2.2.2.2.2.1, y.2.2.2.2.2.2.2.2.2.2.1, y.2.2.2.2.2.2.2.2.2.2.2.1, y.2.2.2.2.2.2.2.2.2.2.2.2.1, y.2.2.2.2.2.2.2.2.2.2.2.2.2.1, y.2.2.2.2.2.2.2.2.2.2.2.2.2.2.1, y.2.2.2.2.2.2.2.2.2.2.2.2.2.2.2.1, y.2.2.2.2.2.2.2.2.2.2.2.2.2.2.2.2.1, y.2.2.2.2.2.2.2.2.2.2.2.2.2.2.2.2.2.1, y.2.2.2.2.2.2.2.2.2.2.2.2.2.2.2.2.2.2.1, y.2.2.2.2.2.2.2.2.2.2.2.2.2.2.2.2.2.2.2.1, y.2.2.2.2.2.2.2.2.2.2.2.2.2.2.2.2.2.2.2.2.1, y.2.2.2.2.2.2.2.2.2.2.2.2.2.2.2.2.2.2.2.2.2.1, y.2.2.2.2.2.2.2.2.2.2.2.2.2.2.2.2.2.2.2.2.2.2.1⟩, fun _ => rfl, .inl rfl⟩
def T_list_int : Ty τ := ⟨List Int, false, [.sl 3], fun x => (x, ()), fun y => y.1, fun _ => rfl, .inr ⟨_, rfl⟩⟩
def enc : (e : Nat) → τ e → List (CV τ)
  | 3, x => T_int.enc false x
  | 9, x => T_string.enc false x
  | 38, x => T_api_Dest.enc false x
  | 40, x => T_api_Sub.enc false x
  | _, _ => []
def dec (e : Nat) (cs : List (CV τ)) : Option (τ e) :=
  match Nat.decEq e 3 with
  | .isTrue h => Eq.rec (motive := fun e _ => Option (τ e)) (show Option (τ 3) from T_int.dec false cs) h.symm
  | .isFalse _ =>
  match Nat.decEq e 9 with
  | .isTrue h => Eq.rec (motive := fun e _ => Option (τ e)) (show Option (τ 9) from T_string.dec false cs) h.symm
  | .isFalse _ =>
  match Nat.decEq e 38 with
  | .isTrue h => Eq.rec (motive := fun e _ => Option (τ e)) (show Option (τ 38) from T_api_Dest.dec false cs) h.symm
  | .isFalse _ =>
  match Nat.decEq e 40 with
  | .isTrue h => Eq.rec (motive := fun e _ => Option (τ e)) (show Option (τ 40) from T_api_Sub.dec false cs) h.symm
  | .isFalse _ =>
  none
def envW (w : World) : Prop := Lib.TabIs Tryd.prog w "internal/strconv.uint64pow10" .u64 Lib.pow10Tab ∧ (∃ tp p, w.cell? ⟨2, 0, none⟩ = some (.iface tp p)) ∧ ∃ tp p, w.cell? ⟨3, 0, none⟩ = some (.iface tp p)
theorem envW_stable (w w' : World) (h : ∀ b, b < 4 → w'.heap[b]? = w.heap[b]?) : envW w → envW w' := by
  intro ⟨h1, ⟨t2, p2, h2⟩, t3, p3, h3⟩
  have hc : ∀ b, b < 4 → w'.cell? ⟨b, 0, none⟩ = w.cell? ⟨b, 0, none⟩ := fun b hb => by unfold World.cell?; simp only [h b hb]
  refine ⟨?_, ⟨t2, p2, by rw [hc 2 (by decide)]; exact h2⟩, t3, p3, by rw [hc 3 (by decide)]; exact h3⟩
  have hg : Tryd.prog.globalNamed "internal/strconv.uint64pow10" = some 1 := by kernel_rfl
  unfold Lib.TabIs World.var? at h1 ⊢
  rw [hg] at h1 ⊢
  simp only [Option.bind_some] at h1 ⊢
  rw [h 1 (by decide)]
  exact h1
def U : Univ := { τ := τ, enc := enc, dec := dec, nb := 4, env := envW, stable := envW_stable }
theorem dec_ok (e : Nat) (cs : List (CV U.τ)) (x : U.τ e) (h : U.dec e cs = some x) : CsLe Tryd.prog U cs (U.enc e x) := by
  have h0 : dec e cs = some x := h
  unfold dec at h0
  cases hd3 : Nat.decEq e 3 with
  | isTrue k => subst k; simp only [hd3] at h0; exact Ty.univ (U := U) T_int h0
  | isFalse k =>
  simp only [hd3] at h0
  cases hd9 : Nat.decEq e 9 with
  | isTrue k => subst k; simp only [hd9] at h0; exact Ty.univ (U := U) T_string h0
  | isFalse k =>
  simp only [hd9] at h0
  cases hd38 : Nat.decEq e 38 with
  | isTrue k => subst k; simp only [hd38] at h0; exact Ty.univ (U := U) T_api_Dest h0
  | isFalse k =>
  simp only [hd38] at h0
  cases hd40 : Nat.decEq e 40 with
  | isTrue k => subst k; simp only [hd40] at h0; exact Ty.univ (U := U) T_api_Sub h0
  | isFalse k =>
  simp only [hd40] at h0
  cases h0
noncomputable def bo_int : Nat := Tryd.prog.bytesOf 3
theorem univOk : UnivOk Tryd.prog U := ⟨dec_ok⟩
theorem mixed : Tryd.prog.follows .mixedOrders = true := by kernel_rfl
def fuel : Nat := 1125899906842624
abbrev OkE (e : Ent U) : Prop := EntOk Tryd.prog U e
theorem okN : ∀ e ∈ ([] : List (Ent U)), OkE e := fun _ h => by cases h
theorem okC {e : Ent U} {l : List (Ent U)} (h : OkE e) (hl : ∀ e ∈ l, OkE e) : ∀ x ∈ e :: l, OkE x := List.forall_mem_cons.2 ⟨h, hl⟩
theorem okF (es : List (Ent U)) (hes : ∀ e ∈ es, OkE e) (adv : Adv) (n f : Nat) (fn : Func) (hf : Tryd.prog.funcs[f]? = some fn) (h1 : (fn.name == "runtime.NumGoroutine") = false) (h2 : fn.body.isNone = false) (sg : Sig τ) : OkE ⟨f, sg, runFn (U := U) Tryd.prog es adv n fn sg⟩ := runFn_ok univOk mixed hes hf (callable hf h1 h2) sg
noncomputable def lp (Φ : Tab U) (ad : Adv) (fn : Func) (np : Nat) (sg : Sig τ) (n : Nat) (p : List Dir) (st : St U) : Option sg.B := evAt Tryd.prog Φ ad n (match fn.body with | some c => c | none => .skip) p (finOf (U := U) Tryd.prog fn np sg) (fun _ _ => none) (finOf (U := U) Tryd.prog fn np sg) st
end Go.VI
