import Derived.Test.YtbjjekbhopgonaaGreatGbVC
import Derived.Test.YtbjjekbhopgonaaGreatChecked
import Derived.KernelRfl
set_option linter.unusedVariables false
set_option linter.unusedSimpArgs false
set_option maxRecDepth 1000000
set_option maxHeartbeats 4000000
namespace Go.VI
open Go Go.Proofs
structure S_api_Dest where
  addr : List UInt8
  seq : Int
structure S_api_Sub where
  type_ : Int
  data : List UInt8
structure S_api_Msg where
  kind : Int
  cmd : Int
  ver : Int
  auth : List UInt8
  family : Int
  ae : Int
  prefix_ : List UInt8
  plen : Int
  tag : Int
  next : List UInt8
  metric : Int
  id : List UInt8
  seq : Int
  seq2 : Int
  interval : Int
  flags : Int
  hops : Int
  nonce : Int
  cost : Int
  addr : List UInt8
  orig : List UInt8
  list : List S_api_Dest
  type_ : Int
  data : List UInt8
  subs : List S_api_Sub
structure S_law27_Room where
  p : Int
  l : List S_api_Msg
  most : Int
  more : Int
structure S_api_Ctx where
  prefix_c0 : List UInt8
  prefix_c1 : List UInt8
  prefix_c2 : List UInt8
  prefix_c3 : List UInt8
  next_c0 : List UInt8
  next_c1 : List UInt8
  id : List UInt8
structure S_api_Entry where
  family : Int
  tag : Int
  addr : List UInt8
  mask : List UInt8
  next : List UInt8
  metric : Int
structure S_lean_writer where
  b : List UInt8
  c_Prefix_c0 : List UInt8
  c_Prefix_c1 : List UInt8
  c_Prefix_c2 : List UInt8
  c_Prefix_c3 : List UInt8
  c_Next_c0 : List UInt8
  c_Next_c1 : List UInt8
  c_Id : List UInt8
structure S_api_Cur where
  s : List UInt8
  at_ : Int
  end_ : Int
  bad : Bool
structure S_api_Tlv where
  type_ : Int
  at_ : Int
  data : List UInt8
structure S_rip_reader where
  cmd : Int
  ver : Int
  says : List UInt8
  alone : Bool
structure S_ripng_reader where
  cmd : Int
  next : List UInt8
  out : List S_api_Msg
structure S_ripng_writer where
  b : List UInt8
  next : List UInt8
structure S_msg_plain where
  kind : Int
  cmd : Int
  ver : Int
  family : Int
  ae : Int
  plen : Int
  tag : Int
  metric : Int
  seq : Int
  seq2 : Int
  interval : Int
  flags : Int
  hops : Int
  nonce : Int
  cost : Int
  typ : Int
  auth : List UInt8
  prefix_ : List UInt8
  next : List UInt8
  id : List UInt8
  addr : List UInt8
  orig : List UInt8
  data : List UInt8
structure S_entry_reader where
  c_S : List UInt8
  c_At : Int
  c_End : Int
  c_Bad : Bool
structure S_4_route_shape where
  c0_size : Int
  c0_base : Int
  c0_low : Int
  c0_high : Int
  c1_size : Int
  c1_base : Int
  c1_low : Int
  c1_high : Int
  c2_size : Int
  c2_base : Int
  c2_low : Int
  c2_high : Int
  c3_size : Int
  c3_base : Int
  c3_low : Int
  c3_high : Int
structure S_field_writer where
  b : List UInt8
structure S_ctx_stepper where
  ctx_Prefix_c0 : List UInt8
  ctx_Prefix_c1 : List UInt8
  ctx_Prefix_c2 : List UInt8
  ctx_Prefix_c3 : List UInt8
  ctx_Next_c0 : List UInt8
  ctx_Next_c1 : List UInt8
  ctx_Id : List UInt8
structure S_field_reader where
  c_S : List UInt8
  c_At : Int
  c_End : Int
  c_Bad : Bool
structure S_route_reader where
  c_S : List UInt8
  c_At : Int
  c_End : Int
  c_Bad : Bool
structure S_api_Raw where
  ae : Int
  flags : Int
  plen : Int
  omitted : Int
  interval : Int
  seq : Int
  metric : Int
  have_ : Int
  bytes : List UInt8
  subs : List S_api_Sub
def τ : Nat → Type
  | 3 => Int
  | 9 => List UInt8
  | 29 => S_api_Msg
  | 87 => S_api_Dest
  | 89 => S_api_Sub
  | 122 => S_api_Tlv
  | _ => Unit
def T_int : Ty τ := ⟨Int, false, [.int .i64], fun x => (x, ()), fun y => y.1, fun _ => rfl, .inr ⟨_, rfl⟩⟩
def T_bool : Ty τ := ⟨Bool, false, [.bool], fun x => (x, ()), fun y => y.1, fun _ => rfl, .inr ⟨_, rfl⟩⟩
def T_uint8 : Ty τ := ⟨Int, false, [.int .u8], fun x => (x, ()), fun y => y.1, fun _ => rfl, .inr ⟨_, rfl⟩⟩
def T_string : Ty τ := ⟨List UInt8, false, [.str], fun x => (x, ()), fun y => y.1, fun _ => rfl, .inr ⟨_, rfl⟩⟩
def T_list_api_Msg : Ty τ := ⟨List S_api_Msg, false, [.sl 29], fun x => (x, ()), fun y => y.1, fun _ => rfl, .inr ⟨_, rfl⟩⟩
def T_list_api_Dest : Ty τ := ⟨List S_api_Dest, false, [.sl 87], fun x => (x, ()), fun y => y.1, fun _ => rfl, .inr ⟨_, rfl⟩⟩
def T_list_api_Sub : Ty τ := ⟨List S_api_Sub, false, [.sl 89], fun x => (x, ()), fun y => y.1, fun _ => rfl, .inr ⟨_, rfl⟩⟩
def T_api_Msg : Ty τ := ⟨S_api_Msg, true, [.int .i64, .int .i64, .int .i64, .str, .int .i64, .int .i64, .str, .int .i64, .int .i64, .str, .int .i64, .str, .int .i64, .int .i64, .int .i64, .int .i64, .int .i64, .int .i64, .int .i64, .str, .str, .sl 87, .int .i64, .str, .sl 89], fun x => (x.kind, x.cmd, x.ver, x.auth, x.family, x.ae, x.prefix_, x.plen, x.tag, x.next, x.metric, x.id, x.seq, x.seq2, x.interval, x.flags, x.hops, x.nonce, x.cost, x.addr, x.orig, x.list, x.type_, x.data, x.subs, ()), fun y => ⟨y.1, y.2.1, y.2.2.1, y.2.2.2.1, y.2.2.2.2.1, y.2.2.2.2.2.1, y.2.2.2.2.2.2.1, y.2.2.2.2.2.2.2.1, y.2.2.2.2.2.2.2.2.1, y.2.2.2.2.2.2.2.2.2.1, y.2.2.2.2.2.2.2.2.2.2.1, y.2.2.2.2.2.2.2.2.2.2.2.1, y.2.2.2.2.2.2.2.2.2.2.2.2.1, y.2.2.2.2.2.2.2.2.2.2.2.2.2.1, y.2.2.2.2.2.2.2.2.2.2.2.2.2.2.1, y.2.2.2.2.2.2.2.2.2.2.2.2.2.2.2.1, y.2.2.2.2.2.2.2.2.2.2.2.2.2.2.2.2.1, y.2.2.2.2.2.2.2.2.2.2.2.2.2.2.2.2.2.1, y.2.2.2.2.2.2.2.2.2.2.2.2.2.2.2.2.2.2.1, y.2.2.2.2.2.2.2.2.2.2.2.2.2.2.2.2.2.2.2.1, y.2.2.2.2.2.2.2.2.2.2.2.2.2.2.2.2.2.2.2.2.1, y.2.2.2.2.2.2.2.2.2.2.2.2.2.2.2.2.2.2.2.2.2.1, y.2.2.2.2.2.2.2.2.2.2.2.2.2.2.2.2.2.2.2.2.2.2.1, y.2.2.2.2.2.2.2.2.2.2.2.2.2.2.2.2.2.2.2.2.2.2.2.1, y.2.2.2.2.2.2.2.2.2.2.2.2.2.2.2.2.2.2.2.2.2.2.2.2.1⟩, fun _ => rfl, .inl rfl⟩
def T_api_Errno : Ty τ := ⟨Int, false, [.int .i64], fun x => (x, ()), fun y => y.1, fun _ => rfl, .inr ⟨_, rfl⟩⟩
def T_api_Ctx : Ty τ := ⟨S_api_Ctx, true, [.str, .str, .str, .str, .str, .str, .str], fun x => (x.prefix_c0, x.prefix_c1, x.prefix_c2, x.prefix_c3, x.next_c0, x.next_c1, x.id, ()), fun y => ⟨y.1, y.2.1, y.2.2.1, y.2.2.2.1, y.2.2.2.2.1, y.2.2.2.2.2.1, y.2.2.2.2.2.2.1⟩, fun _ => rfl, .inl rfl⟩
def T_list_api_Tlv : Ty τ := ⟨List S_api_Tlv, false, [.sl 122], fun x => (x, ()), fun y => y.1, fun _ => rfl, .inr ⟨_, rfl⟩⟩
def T_api_Dest : Ty τ := ⟨S_api_Dest, true, [.str, .int .i64], fun x => (x.addr, x.seq, ()), fun y => ⟨y.1, y.2.1⟩, fun _ => rfl, .inl rfl⟩
def T_api_Sub : Ty τ := ⟨S_api_Sub, true, [.int .i64, .str], fun x => (x.type_, x.data, ()), fun y => ⟨y.1, y.2.1⟩, fun _ => rfl, .inl rfl⟩
def T_api_Entry : Ty τ := ⟨S_api_Entry, true, [.int .i64, .int .i64, .str, .str, .str, .int .i64], fun x => (x.family, x.tag, x.addr, x.mask, x.next, x.metric, ()), fun y => ⟨y.1, y.2.1, y.2.2.1, y.2.2.2.1, y.2.2.2.2.1, y.2.2.2.2.2.1⟩, fun _ => rfl, .inl rfl⟩
def T_lean_writer : Ty τ := ⟨S_lean_writer, true, [.bs 5, .str, .str, .str, .str, .str, .str, .str], fun x => (x.b, x.c_Prefix_c0, x.c_Prefix_c1, x.c_Prefix_c2, x.c_Prefix_c3, x.c_Next_c0, x.c_Next_c1, x.c_Id, ()), fun y => ⟨y.1, y.2.1, y.2.2.1, y.2.2.2.1, y.2.2.2.2.1, y.2.2.2.2.2.1, y.2.2.2.2.2.2.1, y.2.2.2.2.2.2.2.1⟩, fun _ => rfl, .inl rfl⟩
def T_api_Cur : Ty τ := ⟨S_api_Cur, true, [.str, .int .i64, .int .i64, .bool], fun x => (x.s, x.at_, x.end_, x.bad, ()), fun y => ⟨y.1, y.2.1, y.2.2.1, y.2.2.2.1⟩, fun _ => rfl, .inl rfl⟩
def T_api_Tlv : Ty τ := ⟨S_api_Tlv, true, [.int .i64, .int .i64, .str], fun x => (x.type_, x.at_, x.data, ()), fun y => ⟨y.1, y.2.1, y.2.2.1⟩, fun _ => rfl, .inl rfl⟩
def T_rip_reader : Ty τ := ⟨S_rip_reader, true, [.int .i64, .int .i64, .str, .bool], fun x => (x.cmd, x.ver, x.says, x.alone, ()), fun y => ⟨y.1, y.2.1, y.2.2.1, y.2.2.2.1⟩, fun _ => rfl, .inl rfl⟩
def T_ripng_reader : Ty τ := ⟨S_ripng_reader, true, [.int .i64, .str, .sl 29], fun x => (x.cmd, x.next, x.out, ()), fun y => ⟨y.1, y.2.1, y.2.2.1⟩, fun _ => rfl, .inl rfl⟩
def T_ripng_writer : Ty τ := ⟨S_ripng_writer, true, [.bs 5, .str], fun x => (x.b, x.next, ()), fun y => ⟨y.1, y.2.1⟩, fun _ => rfl, .inl rfl⟩
def T_msg_plain : Ty τ := ⟨S_msg_plain, true, [.int .i64, .int .i64, .int .i64, .int .i64, .int .i64, .int .i64, .int .i64, .int .i64, .int .i64, .int .i64, .int .i64, .int .i64, .int .i64, .int .i64, .int .i64, .int .i64, .str, .str, .str, .str, .str, .str, .str], fun x => (x.kind, x.cmd, x.ver, x.family, x.ae, x.plen, x.tag, x.metric, x.seq, x.seq2, x.interval, x.flags, x.hops, x.nonce, x.cost, x.typ, x.auth, x.prefix_, x.next, x.id, x.addr, x.orig, x.data, ()), fun y => ⟨y.1, y.2.1, y.2.2.1, y.2.2.2.1, y.2.2.2.2.1, y.2.2.2.2.2.1, y.2.2.2.2.2.2.1, y.2.2.2.2.2.2.2.1, y.2.2.2.2.2.2.2.2.1, y.2.2.2.2.2.2.2.2.2.1, y.2.2.2.2.2.2.2.2.2.2.1, y.2.2.2.2.2.2.2.2.2.2.2.1, y.2.2.2.2.2.2.2.2.2.2.2.2.1, y.2.2.2.2.2.2.2.2.2.2.2.2.2.1, y.2.2.2.2.2.2.2.2.2.2.2.2.2.2.1, y.2.2.2.2.2.2.2.2.2.2.2.2.2.2.2.1, y.2.2.2.2.2.2.2.2.2.2.2.2.2.2.2.2.1, y.2.2.2.2.2.2.2.2.2.2.2.2.2.2.2.2.2.1, y.2.2.2.2.2.2.2.2.2.2.2.2.2.2.2.2.2.2.1, y.2.2.2.2.2.2.2.2.2.2.2.2.2.2.2.2.2.2.2.1, y.2.2.2.2.2.2.2.2.2.2.2.2.2.2.2.2.2.2.2.2.1, y.2.2.2.2.2.2.2.2.2.2.2.2.2.2.2.2.2.2.2.2.2.1, y.2.2.2.2.2.2.2.2.2.2.2.2.2.2.2.2.2.2.2.2.2.2.1⟩, fun _ => rfl, .inl rfl⟩
def T_list_int : Ty τ := ⟨List Int, false, [.sl 3], fun x => (x, ()), fun y => y.1, fun _ => rfl, .inr ⟨_, rfl⟩⟩
def T_entry_reader : Ty τ := ⟨S_entry_reader, true, [.str, .int .i64, .int .i64, .bool], fun x => (x.c_S, x.c_At, x.c_End, x.c_Bad, ()), fun y => ⟨y.1, y.2.1, y.2.2.1, y.2.2.2.1⟩, fun _ => rfl, .inl rfl⟩
def T_4_route_shape : Ty τ := ⟨S_4_route_shape, true, [.int .i64, .int .i64, .int .i64, .int .i64, .int .i64, .int .i64, .int .i64, .int .i64, .int .i64, .int .i64, .int .i64, .int .i64, .int .i64, .int .i64, .int .i64, .int .i64], fun x => (x.c0_size, x.c0_base, x.c0_low, x.c0_high, x.c1_size, x.c1_base, x.c1_low, x.c1_high, x.c2_size, x.c2_base, x.c2_low, x.c2_high, x.c3_size, x.c3_base, x.c3_low, x.c3_high, ()), fun y => ⟨y.1, y.2.1, y.2.2.1, y.2.2.2.1, y.2.2.2.2.1, y.2.2.2.2.2.1, y.2.2.2.2.2.2.1, y.2.2.2.2.2.2.2.1, y.2.2.2.2.2.2.2.2.1, y.2.2.2.2.2.2.2.2.2.1, y.2.2.2.2.2.2.2.2.2.2.1, y.2.2.2.2.2.2.2.2.2.2.2.1, y.2.2.2.2.2.2.2.2.2.2.2.2.1, y.2.2.2.2.2.2.2.2.2.2.2.2.2.1, y.2.2.2.2.2.2.2.2.2.2.2.2.2.2.1, y.2.2.2.2.2.2.2.2.2.2.2.2.2.2.2.1⟩, fun _ => rfl, .inl rfl⟩
def T_field_writer : Ty τ := ⟨S_field_writer, true, [.bs 5], fun x => (x.b, ()), fun y => ⟨y.1⟩, fun _ => rfl, .inl rfl⟩
def T_ctx_stepper : Ty τ := ⟨S_ctx_stepper, true, [.str, .str, .str, .str, .str, .str, .str], fun x => (x.ctx_Prefix_c0, x.ctx_Prefix_c1, x.ctx_Prefix_c2, x.ctx_Prefix_c3, x.ctx_Next_c0, x.ctx_Next_c1, x.ctx_Id, ()), fun y => ⟨y.1, y.2.1, y.2.2.1, y.2.2.2.1, y.2.2.2.2.1, y.2.2.2.2.2.1, y.2.2.2.2.2.2.1⟩, fun _ => rfl, .inl rfl⟩
def T_field_reader : Ty τ := ⟨S_field_reader, true, [.str, .int .i64, .int .i64, .bool], fun x => (x.c_S, x.c_At, x.c_End, x.c_Bad, ()), fun y => ⟨y.1, y.2.1, y.2.2.1, y.2.2.2.1⟩, fun _ => rfl, .inl rfl⟩
def T_route_reader : Ty τ := ⟨S_route_reader, true, [.str, .int .i64, .int .i64, .bool], fun x => (x.c_S, x.c_At, x.c_End, x.c_Bad, ()), fun y => ⟨y.1, y.2.1, y.2.2.1, y.2.2.2.1⟩, fun _ => rfl, .inl rfl⟩
def T_uint32 : Ty τ := ⟨Int, false, [.int .u32], fun x => (x, ()), fun y => y.1, fun _ => rfl, .inr ⟨_, rfl⟩⟩
def T_api_Raw : Ty τ := ⟨S_api_Raw, true, [.int .i64, .int .i64, .int .i64, .int .i64, .int .i64, .int .i64, .int .i64, .int .i64, .str, .sl 89], fun x => (x.ae, x.flags, x.plen, x.omitted, x.interval, x.seq, x.metric, x.have_, x.bytes, x.subs, ()), fun y => ⟨y.1, y.2.1, y.2.2.1, y.2.2.2.1, y.2.2.2.2.1, y.2.2.2.2.2.1, y.2.2.2.2.2.2.1, y.2.2.2.2.2.2.2.1, y.2.2.2.2.2.2.2.2.1, y.2.2.2.2.2.2.2.2.2.1⟩, fun _ => rfl, .inl rfl⟩
def enc : (e : Nat) → τ e → List (CV τ)
  | 3, x => T_int.enc false x
  | 9, x => T_string.enc false x
  | 29, x => T_api_Msg.enc false x
  | 87, x => T_api_Dest.enc false x
  | 89, x => T_api_Sub.enc false x
  | 122, x => T_api_Tlv.enc false x
  | _, _ => []
def dec (e : Nat) (cs : List (CV τ)) : Option (τ e) :=
  match Nat.decEq e 3 with
  | .isTrue h => Eq.rec (motive := fun e _ => Option (τ e)) (show Option (τ 3) from T_int.dec false cs) h.symm
  | .isFalse _ =>
  match Nat.decEq e 9 with
  | .isTrue h => Eq.rec (motive := fun e _ => Option (τ e)) (show Option (τ 9) from T_string.dec false cs) h.symm
  | .isFalse _ =>
  match Nat.decEq e 29 with
  | .isTrue h => Eq.rec (motive := fun e _ => Option (τ e)) (show Option (τ 29) from T_api_Msg.dec false cs) h.symm
  | .isFalse _ =>
  match Nat.decEq e 87 with
  | .isTrue h => Eq.rec (motive := fun e _ => Option (τ e)) (show Option (τ 87) from T_api_Dest.dec false cs) h.symm
  | .isFalse _ =>
  match Nat.decEq e 89 with
  | .isTrue h => Eq.rec (motive := fun e _ => Option (τ e)) (show Option (τ 89) from T_api_Sub.dec false cs) h.symm
  | .isFalse _ =>
  match Nat.decEq e 122 with
  | .isTrue h => Eq.rec (motive := fun e _ => Option (τ e)) (show Option (τ 122) from T_api_Tlv.dec false cs) h.symm
  | .isFalse _ =>
  none
def U : Univ := ⟨τ, enc, dec⟩
theorem dec_ok (e : Nat) (cs : List (CV U.τ)) (x : U.τ e) (h : U.dec e cs = some x) : CsLe Tryz.prog U cs (U.enc e x) := by
  have h0 : dec e cs = some x := h
  unfold dec at h0
  cases hd3 : Nat.decEq e 3 with
  | isTrue k => subst k; simp only [hd3] at h0; exact Ty.univ (U := U) T_int h0
  | isFalse k =>
  simp only [hd3] at h0
  cases hd9 : Nat.decEq e 9 with
  | isTrue k => subst k; simp only [hd9] at h0; exact Ty.univ (U := U) T_string h0
  | isFalse k =>
  simp only [hd9] at h0
  cases hd29 : Nat.decEq e 29 with
  | isTrue k => subst k; simp only [hd29] at h0; exact Ty.univ (U := U) T_api_Msg h0
  | isFalse k =>
  simp only [hd29] at h0
  cases hd87 : Nat.decEq e 87 with
  | isTrue k => subst k; simp only [hd87] at h0; exact Ty.univ (U := U) T_api_Dest h0
  | isFalse k =>
  simp only [hd87] at h0
  cases hd89 : Nat.decEq e 89 with
  | isTrue k => subst k; simp only [hd89] at h0; exact Ty.univ (U := U) T_api_Sub h0
  | isFalse k =>
  simp only [hd89] at h0
  cases hd122 : Nat.decEq e 122 with
  | isTrue k => subst k; simp only [hd122] at h0; exact Ty.univ (U := U) T_api_Tlv h0
  | isFalse k =>
  simp only [hd122] at h0
  cases h0
noncomputable def bo_api_Msg : Nat := Tryz.prog.bytesOf 29
noncomputable def bo_api_Sub : Nat := Tryz.prog.bytesOf 89
noncomputable def bo_api_Tlv : Nat := Tryz.prog.bytesOf 122
theorem univOk : UnivOk Tryz.prog U := ⟨dec_ok⟩
theorem mixed : Tryz.prog.follows .mixedOrders = true := by kernel_rfl
def fuel : Nat := 1125899906842624
abbrev OkE (e : Ent U) : Prop := EntOk Tryz.prog U e
theorem okN : ∀ e ∈ ([] : List (Ent U)), OkE e := fun _ h => by cases h
theorem okC {e : Ent U} {l : List (Ent U)} (h : OkE e) (hl : ∀ e ∈ l, OkE e) : ∀ x ∈ e :: l, OkE x := List.forall_mem_cons.2 ⟨h, hl⟩
theorem okF (es : List (Ent U)) (hes : ∀ e ∈ es, OkE e) (adv : Adv) (n f : Nat) (fn : Func) (hf : Tryz.prog.funcs[f]? = some fn) (h1 : (fn.name == "runtime.NumGoroutine") = false) (h2 : fn.body.isNone = false) (sg : Sig τ) : OkE ⟨f, sg, runFn (U := U) Tryz.prog es adv n fn sg⟩ := runFn_ok univOk mixed hes hf (callable hf h1 h2) sg
noncomputable def lp (Φ : Tab U) (ad : Adv) (fn : Func) (np : Nat) (sg : Sig τ) (n : Nat) (p : List Dir) (st : St U) : Option sg.B := evAt Tryz.prog Φ ad n (match fn.body with | some c => c | none => .skip) p (finOf (U := U) Tryz.prog fn np sg) (fun _ _ => none) (finOf (U := U) Tryz.prog fn np sg) st
end Go.VI
