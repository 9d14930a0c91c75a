import Derived.Test.YtnjhhopdiopbfaaVC
import Derived.Test.YtnjhhopdiopbfaaChecked
import Derived.KernelRfl
set_option linter.unusedVariables false
set_option linter.unusedSimpArgs false
set_option maxRecDepth 1000000
set_option maxHeartbeats 4000000
namespace Go.VI
open Go Go.Proofs
structure S_api_Dest where
  addr : List UInt8
  seq : Int
structure S_api_Sub where
  type_ : Int
  data : List UInt8
structure S_api_Msg where
  kind : Int
  cmd : Int
  ver : Int
  auth : List UInt8
  family : Int
  ae : Int
  prefix_ : List UInt8
  plen : Int
  tag : Int
  next : List UInt8
  metric : Int
  id : List UInt8
  seq : Int
  seq2 : Int
  interval : Int
  flags : Int
  hops : Int
  nonce : Int
  cost : Int
  addr : List UInt8
  orig : List UInt8
  list : List S_api_Dest
  type_ : Int
  data : List UInt8
  subs : List S_api_Sub
structure S_rip_reader where
  cmd : Int
  ver : Int
  says : List UInt8
  alone : Bool
structure S_api_Entry where
  family : Int
  tag : Int
  addr : List UInt8
  mask : List UInt8
  next : List UInt8
  metric : Int
structure S_api_Cur where
  s : List UInt8
  at_ : Int
  end_ : Int
  bad : Bool
structure S_entry_reader where
  c_S : List UInt8
  c_At : Int
  c_End : Int
  c_Bad : Bool
structure S_msg_plain where
  kind : Int
  cmd : Int
  ver : Int
  family : Int
  ae : Int
  plen : Int
  tag : Int
  metric : Int
  seq : Int
  seq2 : Int
  interval : Int
  flags : Int
  hops : Int
  nonce : Int
  cost : Int
  typ : Int
  auth : List UInt8
  prefix_ : List UInt8
  next : List UInt8
  id : List UInt8
  addr : List UInt8
  orig : List UInt8
  data : List UInt8
def τ : Nat → Type
  | 34 => S_api_Msg
  | 75 => S_api_Dest
  | 77 => S_api_Sub
  | _ => Unit
def T_int : Ty τ := ⟨Int, false, [.int .i64], fun x => (x, ()), fun y => y.1, fun _ => rfl, .inr ⟨_, rfl⟩⟩
def T_bool : Ty τ := ⟨Bool, false, [.bool], fun x => (x, ()), fun y => y.1, fun _ => rfl, .inr ⟨_, rfl⟩⟩
def T_string : Ty τ := ⟨List UInt8, false, [.str], fun x => (x, ()), fun y => y.1, fun _ => rfl, .inr ⟨_, rfl⟩⟩
def T_list_api_Msg : Ty τ := ⟨List S_api_Msg, false, [.sl 34], fun x => (x, ()), fun y => y.1, fun _ => rfl, .inr ⟨_, rfl⟩⟩
def T_api_Errno : Ty τ := ⟨Int, false, [.int .i64], fun x => (x, ()), fun y => y.1, fun _ => rfl, .inr ⟨_, rfl⟩⟩
def T_list_api_Dest : Ty τ := ⟨List S_api_Dest, false, [.sl 75], fun x => (x, ()), fun y => y.1, fun _ => rfl, .inr ⟨_, rfl⟩⟩
def T_list_api_Sub : Ty τ := ⟨List S_api_Sub, false, [.sl 77], fun x => (x, ()), fun y => y.1, fun _ => rfl, .inr ⟨_, rfl⟩⟩
def T_api_Msg : Ty τ := ⟨S_api_Msg, true, [.int .i64, .int .i64, .int .i64, .str, .int .i64, .int .i64, .str, .int .i64, .int .i64, .str, .int .i64, .str, .int .i64, .int .i64, .int .i64, .int .i64, .int .i64, .int .i64, .int .i64, .str, .str, .sl 75, .int .i64, .str, .sl 77], fun x => (x.kind, x.cmd, x.ver, x.auth, x.family, x.ae, x.prefix_, x.plen, x.tag, x.next, x.metric, x.id, x.seq, x.seq2, x.interval, x.flags, x.hops, x.nonce, x.cost, x.addr, x.orig, x.list, x.type_, x.data, x.subs, ()), fun y => ⟨y.1, y.2.1, y.2.2.1, y.2.2.2.1, y.2.2.2.2.1, y.2.2.2.2.2.1, y.2.2.2.2.2.2.1, y.2.2.2.2.2.2.2.1, y.2.2.2.2.2.2.2.2.1, y.2.2.2.2.2.2.2.2.2.1, y.2.2.2.2.2.2.2.2.2.2.1, y.2.2.2.2.2.2.2.2.2.2.2.1, y.2.2.2.2.2.2.2.2.2.2.2.2.1, y.2.2.2.2.2.2.2.2.2.2.2.2.2.1, y.2.2.2.2.2.2.2.2.2.2.2.2.2.2.1, y.2.2.2.2.2.2.2.2.2.2.2.2.2.2.2.1, y.2.2.2.2.2.2.2.2.2.2.2.2.2.2.2.2.1, y.2.2.2.2.2.2.2.2.2.2.2.2.2.2.2.2.2.1, y.2.2.2.2.2.2.2.2.2.2.2.2.2.2.2.2.2.2.1, y.2.2.2.2.2.2.2.2.2.2.2.2.2.2.2.2.2.2.2.1, y.2.2.2.2.2.2.2.2.2.2.2.2.2.2.2.2.2.2.2.2.1, y.2.2.2.2.2.2.2.2.2.2.2.2.2.2.2.2.2.2.2.2.2.1, y.2.2.2.2.2.2.2.2.2.2.2.2.2.2.2.2.2.2.2.2.2.2.1, y.2.2.2.2.2.2.2.2.2.2.2.2.2.2.2.2.2.2.2.2.2.2.2.1, y.2.2.2.2.2.2.2.2.2.2.2.2.2.2.2.2.2.2.2.2.2.2.2.2.1⟩, fun _ => rfl, .inl rfl⟩
def T_uint16 : Ty τ := ⟨Int, false, [.int .u16], fun x => (x, ()), fun y => y.1, fun _ => rfl, .inr ⟨_, rfl⟩⟩
def T_rip_reader : Ty τ := ⟨S_rip_reader, true, [.int .i64, .int .i64, .str, .bool], fun x => (x.cmd, x.ver, x.says, x.alone, ()), fun y => ⟨y.1, y.2.1, y.2.2.1, y.2.2.2.1⟩, fun _ => rfl, .inl rfl⟩
def T_api_Entry : Ty τ := ⟨S_api_Entry, true, [.int .i64, .int .i64, .str, .str, .str, .int .i64], fun x => (x.family, x.tag, x.addr, x.mask, x.next, x.metric, ()), fun y => ⟨y.1, y.2.1, y.2.2.1, y.2.2.2.1, y.2.2.2.2.1, y.2.2.2.2.2.1⟩, fun _ => rfl, .inl rfl⟩
def T_api_Cur : Ty τ := ⟨S_api_Cur, true, [.str, .int .i64, .int .i64, .bool], fun x => (x.s, x.at_, x.end_, x.bad, ()), fun y => ⟨y.1, y.2.1, y.2.2.1, y.2.2.2.1⟩, fun _ => rfl, .inl rfl⟩
def T_entry_reader : Ty τ := ⟨S_entry_reader, true, [.str, .int .i64, .int .i64, .bool], fun x => (x.c_S, x.c_At, x.c_End, x.c_Bad, ()), fun y => ⟨y.1, y.2.1, y.2.2.1, y.2.2.2.1⟩, fun _ => rfl, .inl rfl⟩
def T_api_Dest : Ty τ := ⟨S_api_Dest, true, [.str, .int .i64], fun x => (x.addr, x.seq, ()), fun y => ⟨y.1, y.2.1⟩, fun _ => rfl, .inl rfl⟩
def T_api_Sub : Ty τ := ⟨S_api_Sub, true, [.int .i64, .str], fun x => (x.type_, x.data, ()), fun y => ⟨y.1, y.2.1⟩, fun _ => rfl, .inl rfl⟩
def T_msg_plain : Ty τ := ⟨S_msg_plain, true, [.int .i64, .int .i64, .int .i64, .int .i64, .int .i64, .int .i64, .int .i64, .int .i64, .int .i64, .int .i64, .int .i64, .int .i64, .int .i64, .int .i64, .int .i64, .int .i64, .str, .str, .str, .str, .str, .str, .str], fun x => (x.kind, x.cmd, x.ver, x.family, x.ae, x.plen, x.tag, x.metric, x.seq, x.seq2, x.interval, x.flags, x.hops, x.nonce, x.cost, x.typ, x.auth, x.prefix_, x.next, x.id, x.addr, x.orig, x.data, ()), fun y => ⟨y.1, y.2.1, y.2.2.1, y.2.2.2.1, y.2.2.2.2.1, y.2.2.2.2.2.1, y.2.2.2.2.2.2.1, y.2.2.2.2.2.2.2.1, y.2.2.2.2.2.2.2.2.1, y.2.2.2.2.2.2.2.2.2.1, y.2.2.2.2.2.2.2.2.2.2.1, y.2.2.2.2.2.2.2.2.2.2.2.1, y.2.2.2.2.2.2.2.2.2.2.2.2.1, y.2.2.2.2.2.2.2.2.2.2.2.2.2.1, y.2.2.2.2.2.2.2.2.2.2.2.2.2.2.1, y.2.2.2.2.2.2.2.2.2.2.2.2.2.2.2.1, y.2.2.2.2.2.2.2.2.2.2.2.2.2.2.2.2.1, y.2.2.2.2.2.2.2.2.2.2.2.2.2.2.2.2.2.1, y.2.2.2.2.2.2.2.2.2.2.2.2.2.2.2.2.2.2.1, y.2.2.2.2.2.2.2.2.2.2.2.2.2.2.2.2.2.2.2.1, y.2.2.2.2.2.2.2.2.2.2.2.2.2.2.2.2.2.2.2.2.1, y.2.2.2.2.2.2.2.2.2.2.2.2.2.2.2.2.2.2.2.2.2.1, y.2.2.2.2.2.2.2.2.2.2.2.2.2.2.2.2.2.2.2.2.2.2.1⟩, fun _ => rfl, .inl rfl⟩
def T_uint32 : Ty τ := ⟨Int, false, [.int .u32], fun x => (x, ()), fun y => y.1, fun _ => rfl, .inr ⟨_, rfl⟩⟩
def enc : (e : Nat) → τ e → List (CV τ)
  | 34, x => T_api_Msg.enc false x
  | 75, x => T_api_Dest.enc false x
  | 77, x => T_api_Sub.enc false x
  | _, _ => []
def dec (e : Nat) (cs : List (CV τ)) : Option (τ e) :=
  match Nat.decEq e 34 with
  | .isTrue h => Eq.rec (motive := fun e _ => Option (τ e)) (show Option (τ 34) from T_api_Msg.dec false cs) h.symm
  | .isFalse _ =>
  match Nat.decEq e 75 with
  | .isTrue h => Eq.rec (motive := fun e _ => Option (τ e)) (show Option (τ 75) from T_api_Dest.dec false cs) h.symm
  | .isFalse _ =>
  match Nat.decEq e 77 with
  | .isTrue h => Eq.rec (motive := fun e _ => Option (τ e)) (show Option (τ 77) from T_api_Sub.dec false cs) h.symm
  | .isFalse _ =>
  none
def U : Univ := ⟨τ, enc, dec⟩
theorem dec_ok (e : Nat) (cs : List (CV U.τ)) (x : U.τ e) (h : U.dec e cs = some x) : CsLe Try.prog U cs (U.enc e x) := by
  have h0 : dec e cs = some x := h
  unfold dec at h0
  cases hd34 : Nat.decEq e 34 with
  | isTrue k => subst k; simp only [hd34] at h0; exact Ty.univ (U := U) T_api_Msg h0
  | isFalse k =>
  simp only [hd34] at h0
  cases hd75 : Nat.decEq e 75 with
  | isTrue k => subst k; simp only [hd75] at h0; exact Ty.univ (U := U) T_api_Dest h0
  | isFalse k =>
  simp only [hd75] at h0
  cases hd77 : Nat.decEq e 77 with
  | isTrue k => subst k; simp only [hd77] at h0; exact Ty.univ (U := U) T_api_Sub h0
  | isFalse k =>
  simp only [hd77] at h0
  cases h0
noncomputable def bo_api_Msg : Nat := Try.prog.bytesOf 34
noncomputable def bo_api_Dest : Nat := Try.prog.bytesOf 75
noncomputable def bo_api_Sub : Nat := Try.prog.bytesOf 77
theorem univOk : UnivOk Try.prog U := ⟨dec_ok⟩
theorem mixed : Try.prog.follows .mixedOrders = true := by kernel_rfl
def fuel : Nat := 1125899906842624
end Go.VI
