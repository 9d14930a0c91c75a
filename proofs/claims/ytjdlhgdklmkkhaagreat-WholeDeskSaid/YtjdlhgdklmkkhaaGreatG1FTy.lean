import Derived.Test.YtjdlhgdklmkkhaaGreatG1VC
import Derived.Test.YtjdlhgdklmkkhaaGreatChecked
import Derived.KernelRfl
import Derived.WalkKit
set_option linter.unusedVariables false
set_option linter.unusedSimpArgs false
set_option maxRecDepth 1000000
set_option maxHeartbeats 4000000
namespace Go.VI
open Go Go.Proofs
structure S_3_int where
  c0 : Int
  c1 : Int
  c2 : Int
structure S_api_Dest where
  addr : List UInt8
  seq : Int
structure S_api_Sub where
  type_ : Int
  data : List UInt8
structure S_api_Msg where
  kind : Int
  cmd : Int
  ver : Int
  auth : List UInt8
  family : Int
  ae : Int
  prefix_ : List UInt8
  plen : Int
  tag : Int
  next : List UInt8
  metric : Int
  id : List UInt8
  seq : Int
  seq2 : Int
  interval : Int
  flags : Int
  hops : Int
  nonce : Int
  cost : Int
  addr : List UInt8
  orig : List UInt8
  list : List S_api_Dest
  type_ : Int
  data : List UInt8
  subs : List S_api_Sub
structure S_ref30_Told where
  l : List S_api_Msg
  d : List (List UInt8)
  at_ : Int
  e : Int
structure S_ref30_Act where
  p : Int
  packs : Bool
  b : List UInt8
  l : List S_api_Msg
  most : Int
structure S_atomic_Bool where
  v : Int
structure S_atomic_Int64 where
  v : Int
structure S_desk_Desk where
  once_done_v : Int
  once_m_mu_state : Int
  once_m_mu_sema : Int
  kinds : Unit
  closed_v : Int
  calls_v : Int
  failed_v : Int
  bytes_v : Int
structure S_api_Entry where
  family : Int
  tag : Int
  addr : List UInt8
  mask : List UInt8
  next : List UInt8
  metric : Int
structure S_api_Ctx where
  prefix_c0 : List UInt8
  prefix_c1 : List UInt8
  prefix_c2 : List UInt8
  prefix_c3 : List UInt8
  next_c0 : List UInt8
  next_c1 : List UInt8
  id : List UInt8
structure S_15_string where
  c0 : List UInt8
  c1 : List UInt8
  c2 : List UInt8
  c3 : List UInt8
  c4 : List UInt8
  c5 : List UInt8
  c6 : List UInt8
  c7 : List UInt8
  c8 : List UInt8
  c9 : List UInt8
  c10 : List UInt8
  c11 : List UInt8
  c12 : List UInt8
  c13 : List UInt8
  c14 : List UInt8
structure S_api_Tlv where
  type_ : Int
  at_ : Int
  data : List UInt8
structure S_rip_reader where
  cmd : Int
  ver : Int
  says : List UInt8
  alone : Bool
structure S_ripng_reader where
  cmd : Int
  next : List UInt8
  out : List S_api_Msg
structure S_ripng_writer where
  b : List UInt8
  next : List UInt8
structure S_msg_plain where
  kind : Int
  cmd : Int
  ver : Int
  family : Int
  ae : Int
  plen : Int
  tag : Int
  metric : Int
  seq : Int
  seq2 : Int
  interval : Int
  flags : Int
  hops : Int
  nonce : Int
  cost : Int
  typ : Int
  auth : List UInt8
  prefix_ : List UInt8
  next : List UInt8
  id : List UInt8
  addr : List UInt8
  orig : List UInt8
  data : List UInt8
structure S_api_Cur where
  s : List UInt8
  at_ : Int
  end_ : Int
  bad : Bool
structure S_entry_reader where
  c_S : List UInt8
  c_At : Int
  c_End : Int
  c_Bad : Bool
structure S_lean_writer where
  b : List UInt8
  c_Prefix_c0 : List UInt8
  c_Prefix_c1 : List UInt8
  c_Prefix_c2 : List UInt8
  c_Prefix_c3 : List UInt8
  c_Next_c0 : List UInt8
  c_Next_c1 : List UInt8
  c_Id : List UInt8
structure S_4_route_shape where
  c0_size : Int
  c0_base : Int
  c0_low : Int
  c0_high : Int
  c1_size : Int
  c1_base : Int
  c1_low : Int
  c1_high : Int
  c2_size : Int
  c2_base : Int
  c2_low : Int
  c2_high : Int
  c3_size : Int
  c3_base : Int
  c3_low : Int
  c3_high : Int
structure S_api_Raw where
  ae : Int
  flags : Int
  plen : Int
  omitted : Int
  interval : Int
  seq : Int
  metric : Int
  have_ : Int
  bytes : List UInt8
  subs : List S_api_Sub
structure S_ctx_stepper where
  ctx_Prefix_c0 : List UInt8
  ctx_Prefix_c1 : List UInt8
  ctx_Prefix_c2 : List UInt8
  ctx_Prefix_c3 : List UInt8
  ctx_Next_c0 : List UInt8
  ctx_Next_c1 : List UInt8
  ctx_Id : List UInt8
structure S_field_reader where
  c_S : List UInt8
  c_At : Int
  c_End : Int
  c_Bad : Bool
structure S_route_reader where
  c_S : List UInt8
  c_At : Int
  c_End : Int
  c_Bad : Bool
structure S_field_writer where
  b : List UInt8
def τ : Nat → Type
  | 3 => Int
  | 9 => List UInt8
  | 36 => S_ref30_Told
  | 39 => S_ref30_Act
  | 77 => S_api_Msg
  | 94 => S_api_Dest
  | 96 => S_api_Sub
  | 149 => S_api_Tlv
  | _ => Unit
def T_int64 : Ty τ := ⟨Int, false, [.int .i64], fun x => (x, ()), fun y => y.1, fun _ => rfl, .inr ⟨_, rfl⟩⟩
def T_int : Ty τ := ⟨Int, false, [.int .i64], fun x => (x, ()), fun y => y.1, fun _ => rfl, .inr ⟨_, rfl⟩⟩
def T_bool : Ty τ := ⟨Bool, false, [.bool], fun x => (x, ()), fun y => y.1, fun _ => rfl, .inr ⟨_, rfl⟩⟩
def T_uint8 : Ty τ := ⟨Int, false, [.int .u8], fun x => (x, ()), fun y => y.1, fun _ => rfl, .inr ⟨_, rfl⟩⟩
def T_string : Ty τ := ⟨List UInt8, false, [.str], fun x => (x, ()), fun y => y.1, fun _ => rfl, .inr ⟨_, rfl⟩⟩
def T_list_api_Msg : Ty τ := ⟨List S_api_Msg, false, [.sl 77], fun x => (x, ()), fun y => y.1, fun _ => rfl, .inr ⟨_, rfl⟩⟩
def T_list_string : Ty τ := ⟨List (List UInt8), false, [.sl 9], fun x => (x, ()), fun y => y.1, fun _ => rfl, .inr ⟨_, rfl⟩⟩
def T_api_Errno : Ty τ := ⟨Int, false, [.int .i64], fun x => (x, ()), fun y => y.1, fun _ => rfl, .inr ⟨_, rfl⟩⟩
def T_ref30_Told : Ty τ := ⟨S_ref30_Told, true, [.sl 77, .sl 9, .int .i64, .int .i64], fun x => (x.l, x.d, x.at_, x.e, ()), fun y => ⟨y.1, y.2.1, y.2.2.1, y.2.2.2.1⟩, fun _ => rfl, .inl rfl⟩
def T_ref30_Act : Ty τ := ⟨S_ref30_Act, true, [.int .i64, .bool, .str, .sl 77, .int .i64], fun x => (x.p, x.packs, x.b, x.l, x.most, ()), fun y => ⟨y.1, y.2.1, y.2.2.1, y.2.2.2.1, y.2.2.2.2.1⟩, fun _ => rfl, .inl rfl⟩
def T_uint16 : Ty τ := ⟨Int, false, [.int .u16], fun x => (x, ()), fun y => y.1, fun _ => rfl, .inr ⟨_, rfl⟩⟩
def T_uint32 : Ty τ := ⟨Int, false, [.int .u32], fun x => (x, ()), fun y => y.1, fun _ => rfl, .inr ⟨_, rfl⟩⟩
def T_atomic_Bool : Ty τ := ⟨S_atomic_Bool, true, [.int .u32], fun x => (x.v, ()), fun y => ⟨y.1⟩, fun _ => rfl, .inl rfl⟩
def T_atomic_Int64 : Ty τ := ⟨S_atomic_Int64, true, [.int .i64], fun x => (x.v, ()), fun y => ⟨y.1⟩, fun _ => rfl, .inl rfl⟩
def T_desk_Desk : Ty τ := ⟨S_desk_Desk, true, [.int .u32, .int .i32, .int .u32, .any, .int .u32, .int .i64, .int .i64, .int .i64], fun x => (x.once_done_v, x.once_m_mu_state, x.once_m_mu_sema, x.kinds, x.closed_v, x.calls_v, x.failed_v, x.bytes_v, ()), fun y => ⟨y.1, y.2.1, y.2.2.1, y.2.2.2.1, y.2.2.2.2.1, y.2.2.2.2.2.1, y.2.2.2.2.2.2.1, y.2.2.2.2.2.2.2.1⟩, fun _ => rfl, .inl rfl⟩
def T_list_api_Dest : Ty τ := ⟨List S_api_Dest, false, [.sl 94], fun x => (x, ()), fun y => y.1, fun _ => rfl, .inr ⟨_, rfl⟩⟩
def T_list_api_Sub : Ty τ := ⟨List S_api_Sub, false, [.sl 96], fun x => (x, ()), fun y => y.1, fun _ => rfl, .inr ⟨_, rfl⟩⟩
def T_api_Msg : Ty τ := ⟨S_api_Msg, true, [.int .i64, .int .i64, .int .i64, .str, .int .i64, .int .i64, .str, .int .i64, .int .i64, .str, .int .i64, .str, .int .i64, .int .i64, .int .i64, .int .i64, .int .i64, .int .i64, .int .i64, .str, .str, .sl 94, .int .i64, .str, .sl 96], fun x => (x.kind, x.cmd, x.ver, x.auth, x.family, x.ae, x.prefix_, x.plen, x.tag, x.next, x.metric, x.id, x.seq, x.seq2, x.interval, x.flags, x.hops, x.nonce, x.cost, x.addr, x.orig, x.list, x.type_, x.data, x.subs, ()), fun y => ⟨y.1, y.2.1, y.2.2.1, y.2.2.2.1, y.2.2.2.2.1, y.2.2.2.2.2.1, y.2.2.2.2.2.2.1, y.2.2.2.2.2.2.2.1, y.2.2.2.2.2.2.2.2.1, y.2.2.2.2.2.2.2.2.2.1, y.2.2.2.2.2.2.2.2.2.2.1, y.2.2.2.2.2.2.2.2.2.2.2.1, y.2.2.2.2.2.2.2.2.2.2.2.2.1, y.2.2.2.2.2.2.2.2.2.2.2.2.2.1, y.2.2.2.2.2.2.2.2.2.2.2.2.2.2.1, y.2.2.2.2.2.2.2.2.2.2.2.2.2.2.2.1, y.2.2.2.2.2.2.2.2.2.2.2.2.2.2.2.2.1, y.2.2.2.2.2.2.2.2.2.2.2.2.2.2.2.2.2.1, y.2.2.2.2.2.2.2.2.2.2.2.2.2.2.2.2.2.2.1, y.2.2.2.2.2.2.2.2.2.2.2.2.2.2.2.2.2.2.2.1, y.2.2.2.2.2.2.2.2.2.2.2.2.2.2.2.2.2.2.2.2.1, y.2.2.2.2.2.2.2.2.2.2.2.2.2.2.2.2.2.2.2.2.2.1, y.2.2.2.2.2.2.2.2.2.2.2.2.2.2.2.2.2.2.2.2.2.2.1, y.2.2.2.2.2.2.2.2.2.2.2.2.2.2.2.2.2.2.2.2.2.2.2.1, y.2.2.2.2.2.2.2.2.2.2.2.2.2.2.2.2.2.2.2.2.2.2.2.2.1⟩, fun _ => rfl, .inl rfl⟩
def T_api_Dest : Ty τ := ⟨S_api_Dest, true, [.str, .int .i64], fun x => (x.addr, x.seq, ()), fun y => ⟨y.1, y.2.1⟩, fun _ => rfl, .inl rfl⟩
def T_api_Sub : Ty τ := ⟨S_api_Sub, true, [.int .i64, .str], fun x => (x.type_, x.data, ()), fun y => ⟨y.1, y.2.1⟩, fun _ => rfl, .inl rfl⟩
def T_api_Entry : Ty τ := ⟨S_api_Entry, true, [.int .i64, .int .i64, .str, .str, .str, .int .i64], fun x => (x.family, x.tag, x.addr, x.mask, x.next, x.metric, ()), fun y => ⟨y.1, y.2.1, y.2.2.1, y.2.2.2.1, y.2.2.2.2.1, y.2.2.2.2.2.1⟩, fun _ => rfl, .inl rfl⟩
def T_list_api_Tlv : Ty τ := ⟨List S_api_Tlv, false, [.sl 149], fun x => (x, ()), fun y => y.1, fun _ => rfl, .inr ⟨_, rfl⟩⟩
def T_api_Ctx : Ty τ := ⟨S_api_Ctx, true, [.str, .str, .str, .str, .str, .str, .str], fun x => (x.prefix_c0, x.prefix_c1, x.prefix_c2, x.prefix_c3, x.next_c0, x.next_c1, x.id, ()), fun y => ⟨y.1, y.2.1, y.2.2.1, y.2.2.2.1, y.2.2.2.2.1, y.2.2.2.2.2.1, y.2.2.2.2.2.2.1⟩, fun _ => rfl, .inl rfl⟩
def T_api_Tlv : Ty τ := ⟨S_api_Tlv, true, [.int .i64, .int .i64, .str], fun x => (x.type_, x.at_, x.data, ()), fun y => ⟨y.1, y.2.1, y.2.2.1⟩, fun _ => rfl, .inl rfl⟩
def T_rip_reader : Ty τ := ⟨S_rip_reader, true, [.int .i64, .int .i64, .str, .bool], fun x => (x.cmd, x.ver, x.says, x.alone, ()), fun y => ⟨y.1, y.2.1, y.2.2.1, y.2.2.2.1⟩, fun _ => rfl, .inl rfl⟩
def T_ripng_reader : Ty τ := ⟨S_ripng_reader, true, [.int .i64, .str, .sl 77], fun x => (x.cmd, x.next, x.out, ()), fun y => ⟨y.1, y.2.1, y.2.2.1⟩, fun _ => rfl, .inl rfl⟩
def T_ripng_writer : Ty τ := ⟨S_ripng_writer, true, [.bs 5, .str], fun x => (x.b, x.next, ()), fun y => ⟨y.1, y.2.1⟩, fun _ => rfl, .inl rfl⟩
def T_msg_plain : Ty τ := ⟨S_msg_plain, true, [.int .i64, .int .i64, .int .i64, .int .i64, .int .i64, .int .i64, .int .i64, .int .i64, .int .i64, .int .i64, .int .i64, .int .i64, .int .i64, .int .i64, .int .i64, .int .i64, .str, .str, .str, .str, .str, .str, .str], fun x => (x.kind, x.cmd, x.ver, x.family, x.ae, x.plen, x.tag, x.metric, x.seq, x.seq2, x.interval, x.flags, x.hops, x.nonce, x.cost, x.typ, x.auth, x.prefix_, x.next, x.id, x.addr, x.orig, x.data, ()), fun y => ⟨y.1, y.2.1, y.2.2.1, y.2.2.2.1, y.2.2.2.2.1, y.2.2.2.2.2.1, y.2.2.2.2.2.2.1, y.2.2.2.2.2.2.2.1, y.2.2.2.2.2.2.2.2.1, y.2.2.2.2.2.2.2.2.2.1, y.2.2.2.2.2.2.2.2.2.2.1, y.2.2.2.2.2.2.2.2.2.2.2.1, y.2.2.2.2.2.2.2.2.2.2.2.2.1, y.2.2.2.2.2.2.2.2.2.2.2.2.2.1, y.2.2.2.2.2.2.2.2.2.2.2.2.2.2.1, y.2.2.2.2.2.2.2.2.2.2.2.2.2.2.2.1, y.2.2.2.2.2.2.2.2.2.2.2.2.2.2.2.2.1, y.2.2.2.2.2.2.2.2.2.2.2.2.2.2.2.2.2.1, y.2.2.2.2.2.2.2.2.2.2.2.2.2.2.2.2.2.2.1, y.2.2.2.2.2.2.2.2.2.2.2.2.2.2.2.2.2.2.2.1, y.2.2.2.2.2.2.2.2.2.2.2.2.2.2.2.2.2.2.2.2.1, y.2.2.2.2.2.2.2.2.2.2.2.2.2.2.2.2.2.2.2.2.2.1, y.2.2.2.2.2.2.2.2.2.2.2.2.2.2.2.2.2.2.2.2.2.2.1⟩, fun _ => rfl, .inl rfl⟩
def T_api_Cur : Ty τ := ⟨S_api_Cur, true, [.str, .int .i64, .int .i64, .bool], fun x => (x.s, x.at_, x.end_, x.bad, ()), fun y => ⟨y.1, y.2.1, y.2.2.1, y.2.2.2.1⟩, fun _ => rfl, .inl rfl⟩
def T_entry_reader : Ty τ := ⟨S_entry_reader, true, [.str, .int .i64, .int .i64, .bool], fun x => (x.c_S, x.c_At, x.c_End, x.c_Bad, ()), fun y => ⟨y.1, y.2.1, y.2.2.1, y.2.2.2.1⟩, fun _ => rfl, .inl rfl⟩
def T_list_int : Ty τ := ⟨List Int, false, [.sl 3], fun x => (x, ()), fun y => y.1, fun _ => rfl, .inr ⟨_, rfl⟩⟩
def T_lean_writer : Ty τ := ⟨S_lean_writer, true, [.bs 5, .str, .str, .str, .str, .str, .str, .str], fun x => (x.b, x.c_Prefix_c0, x.c_Prefix_c1, x.c_Prefix_c2, x.c_Prefix_c3, x.c_Next_c0, x.c_Next_c1, x.c_Id, ()), fun y => ⟨y.1, y.2.1, y.2.2.1, y.2.2.2.1, y.2.2.2.2.1, y.2.2.2.2.2.1, y.2.2.2.2.2.2.1, y.2.2.2.2.2.2.2.1⟩, fun _ => rfl, .inl rfl⟩
def T_4_route_shape : Ty τ := ⟨S_4_route_shape, true, [.int .i64, .int .i64, .int .i64, .int .i64, .int .i64, .int .i64, .int .i64, .int .i64, .int .i64, .int .i64, .int .i64, .int .i64, .int .i64, .int .i64, .int .i64, .int .i64], fun x => (x.c0_size, x.c0_base, x.c0_low, x.c0_high, x.c1_size, x.c1_base, x.c1_low, x.c1_high, x.c2_size, x.c2_base, x.c2_low, x.c2_high, x.c3_size, x.c3_base, x.c3_low, x.c3_high, ()), fun y => ⟨y.1, y.2.1, y.2.2.1, y.2.2.2.1, y.2.2.2.2.1, y.2.2.2.2.2.1, y.2.2.2.2.2.2.1, y.2.2.2.2.2.2.2.1, y.2.2.2.2.2.2.2.2.1, y.2.2.2.2.2.2.2.2.2.1, y.2.2.2.2.2.2.2.2.2.2.1, y.2.2.2.2.2.2.2.2.2.2.2.1, y.2.2.2.2.2.2.2.2.2.2.2.2.1, y.2.2.2.2.2.2.2.2.2.2.2.2.2.1, y.2.2.2.2.2.2.2.2.2.2.2.2.2.2.1, y.2.2.2.2.2.2.2.2.2.2.2.2.2.2.2.1⟩, fun _ => rfl, .inl rfl⟩
def T_api_Raw : Ty τ := ⟨S_api_Raw, true, [.int .i64, .int .i64, .int .i64, .int .i64, .int .i64, .int .i64, .int .i64, .int .i64, .str, .sl 96], fun x => (x.ae, x.flags, x.plen, x.omitted, x.interval, x.seq, x.metric, x.have_, x.bytes, x.subs, ()), fun y => ⟨y.1, y.2.1, y.2.2.1, y.2.2.2.1, y.2.2.2.2.1, y.2.2.2.2.2.1, y.2.2.2.2.2.2.1, y.2.2.2.2.2.2.2.1, y.2.2.2.2.2.2.2.2.1, y.2.2.2.2.2.2.2.2.2.1⟩, fun _ => rfl, .inl rfl⟩
def T_ctx_stepper : Ty τ := ⟨S_ctx_stepper, true, [.str, .str, .str, .str, .str, .str, .str], fun x => (x.ctx_Prefix_c0, x.ctx_Prefix_c1, x.ctx_Prefix_c2, x.ctx_Prefix_c3, x.ctx_Next_c0, x.ctx_Next_c1, x.ctx_Id, ()), fun y => ⟨y.1, y.2.1, y.2.2.1, y.2.2.2.1, y.2.2.2.2.1, y.2.2.2.2.2.1, y.2.2.2.2.2.2.1⟩, fun _ => rfl, .inl rfl⟩
def T_field_reader : Ty τ := ⟨S_field_reader, true, [.str, .int .i64, .int .i64, .bool], fun x => (x.c_S, x.c_At, x.c_End, x.c_Bad, ()), fun y => ⟨y.1, y.2.1, y.2.2.1, y.2.2.2.1⟩, fun _ => rfl, .inl rfl⟩
def T_route_reader : Ty τ := ⟨S_route_reader, true, [.str, .int .i64, .int .i64, .bool], fun x => (x.c_S, x.c_At, x.c_End, x.c_Bad, ()), fun y => ⟨y.1, y.2.1, y.2.2.1, y.2.2.2.1⟩, fun _ => rfl, .inl rfl⟩
def T_field_writer : Ty τ := ⟨S_field_writer, true, [.bs 5], fun x => (x.b, ()), fun y => ⟨y.1⟩, fun _ => rfl, .inl rfl⟩
def enc : (e : Nat) → τ e → List (CV τ)
  | 3, x => T_int.enc false x
  | 9, x => T_string.enc false x
  | 36, x => T_ref30_Told.enc false x
  | 39, x => T_ref30_Act.enc false x
  | 77, x => T_api_Msg.enc false x
  | 94, x => T_api_Dest.enc false x
  | 96, x => T_api_Sub.enc false x
  | 149, x => T_api_Tlv.enc false x
  | _, _ => []
def dec (e : Nat) (cs : List (CV τ)) : Option (τ e) :=
  match Nat.decEq e 3 with
  | .isTrue h => Eq.rec (motive := fun e _ => Option (τ e)) (show Option (τ 3) from T_int.dec false cs) h.symm
  | .isFalse _ =>
  match Nat.decEq e 9 with
  | .isTrue h => Eq.rec (motive := fun e _ => Option (τ e)) (show Option (τ 9) from T_string.dec false cs) h.symm
  | .isFalse _ =>
  match Nat.decEq e 36 with
  | .isTrue h => Eq.rec (motive := fun e _ => Option (τ e)) (show Option (τ 36) from T_ref30_Told.dec false cs) h.symm
  | .isFalse _ =>
  match Nat.decEq e 39 with
  | .isTrue h => Eq.rec (motive := fun e _ => Option (τ e)) (show Option (τ 39) from T_ref30_Act.dec false cs) h.symm
  | .isFalse _ =>
  match Nat.decEq e 77 with
  | .isTrue h => Eq.rec (motive := fun e _ => Option (τ e)) (show Option (τ 77) from T_api_Msg.dec false cs) h.symm
  | .isFalse _ =>
  match Nat.decEq e 94 with
  | .isTrue h => Eq.rec (motive := fun e _ => Option (τ e)) (show Option (τ 94) from T_api_Dest.dec false cs) h.symm
  | .isFalse _ =>
  match Nat.decEq e 96 with
  | .isTrue h => Eq.rec (motive := fun e _ => Option (τ e)) (show Option (τ 96) from T_api_Sub.dec false cs) h.symm
  | .isFalse _ =>
  match Nat.decEq e 149 with
  | .isTrue h => Eq.rec (motive := fun e _ => Option (τ e)) (show Option (τ 149) from T_api_Tlv.dec false cs) h.symm
  | .isFalse _ =>
  none
def U : Univ := { τ := τ, enc := enc, dec := dec, news := [(6, [.int .u32 0, .int .i32 0, .int .u32 0, .any, .int .u32 0, .int .i64 0, .int .i64 0, .int .i64 0])] }
theorem dec_ok (e : Nat) (cs : List (CV U.τ)) (x : U.τ e) (h : U.dec e cs = some x) : CsLe Tryz.prog U cs (U.enc e x) := by
  have h0 : dec e cs = some x := h
  unfold dec at h0
  cases hd3 : Nat.decEq e 3 with
  | isTrue k => subst k; simp only [hd3] at h0; exact Ty.univ (U := U) T_int h0
  | isFalse k =>
  simp only [hd3] at h0
  cases hd9 : Nat.decEq e 9 with
  | isTrue k => subst k; simp only [hd9] at h0; exact Ty.univ (U := U) T_string h0
  | isFalse k =>
  simp only [hd9] at h0
  cases hd36 : Nat.decEq e 36 with
  | isTrue k => subst k; simp only [hd36] at h0; exact Ty.univ (U := U) T_ref30_Told h0
  | isFalse k =>
  simp only [hd36] at h0
  cases hd39 : Nat.decEq e 39 with
  | isTrue k => subst k; simp only [hd39] at h0; exact Ty.univ (U := U) T_ref30_Act h0
  | isFalse k =>
  simp only [hd39] at h0
  cases hd77 : Nat.decEq e 77 with
  | isTrue k => subst k; simp only [hd77] at h0; exact Ty.univ (U := U) T_api_Msg h0
  | isFalse k =>
  simp only [hd77] at h0
  cases hd94 : Nat.decEq e 94 with
  | isTrue k => subst k; simp only [hd94] at h0; exact Ty.univ (U := U) T_api_Dest h0
  | isFalse k =>
  simp only [hd94] at h0
  cases hd96 : Nat.decEq e 96 with
  | isTrue k => subst k; simp only [hd96] at h0; exact Ty.univ (U := U) T_api_Sub h0
  | isFalse k =>
  simp only [hd96] at h0
  cases hd149 : Nat.decEq e 149 with
  | isTrue k => subst k; simp only [hd149] at h0; exact Ty.univ (U := U) T_api_Tlv h0
  | isFalse k =>
  simp only [hd149] at h0
  cases h0
noncomputable def bo_string : Nat := Tryz.prog.bytesOf 9
noncomputable def bo_api_Msg : Nat := Tryz.prog.bytesOf 77
noncomputable def bo_api_Dest : Nat := Tryz.prog.bytesOf 94
noncomputable def bo_api_Sub : Nat := Tryz.prog.bytesOf 96
noncomputable def bo_api_Tlv : Nat := Tryz.prog.bytesOf 149
theorem new6_ok : NewOk Tryz.prog U 6 [] ⟨.box [.int .u32 0, .int .i32 0, .int .u32 0, .any, .int .u32 0, .int .i64 0, .int .i64 0, .int .i64 0], []⟩ := by
  refine ⟨rfl, callable Tryz.func6 (by kernel_rfl) (by kernel_rfl), _, rfl, fun w => ?_⟩
  go_enter Tryz.func6, Tryz.ntmps6
  go_wp2
  go_ret
  refine ⟨_, _, rfl, rfl, rfl, fun i c hi => ?_⟩
  match i, hi with
  | 0, hi => injection hi with hi; subst hi; exact ⟨_, rfl, fun I => .int _ _ (by unfold IntKind.has; decide)⟩
  | 1, hi => injection hi with hi; subst hi; exact ⟨_, rfl, fun I => .int _ _ (by unfold IntKind.has; decide)⟩
  | 2, hi => injection hi with hi; subst hi; exact ⟨_, rfl, fun I => .int _ _ (by unfold IntKind.has; decide)⟩
  | 3, hi => injection hi with hi; subst hi; exact ⟨_, rfl, fun I => .any _ trivial⟩
  | 4, hi => injection hi with hi; subst hi; exact ⟨_, rfl, fun I => .int _ _ (by unfold IntKind.has; decide)⟩
  | 5, hi => injection hi with hi; subst hi; exact ⟨_, rfl, fun I => .int _ _ (by unfold IntKind.has; decide)⟩
  | 6, hi => injection hi with hi; subst hi; exact ⟨_, rfl, fun I => .int _ _ (by unfold IntKind.has; decide)⟩
  | 7, hi => injection hi with hi; subst hi; exact ⟨_, rfl, fun I => .int _ _ (by unfold IntKind.has; decide)⟩
  | i + 8, hi => cases hi
theorem news_ok (f : Nat) (cs : List (CV U.τ)) (h : (f, cs) ∈ U.news) : NewOk Tryz.prog U f [] ⟨.box cs, []⟩ := by
  have h : (f, cs) ∈ [(6, [.int .u32 0, .int .i32 0, .int .u32 0, .any, .int .u32 0, .int .i64 0, .int .i64 0, .int .i64 0])] := h
  rcases List.mem_cons.1 h with h | h
  · injection h with h1 h2; subst h1; subst h2; exact new6_ok
  cases h
theorem univOk : UnivOk Tryz.prog U := ⟨dec_ok, news_ok⟩
theorem mixed : Tryz.prog.follows .mixedOrders = true := by kernel_rfl
def fuel : Nat := 1125899906842624
abbrev OkE (e : Ent U) : Prop := EntOk Tryz.prog U e
theorem okN : ∀ e ∈ ([] : List (Ent U)), OkE e := fun _ h => by cases h
theorem okC {e : Ent U} {l : List (Ent U)} (h : OkE e) (hl : ∀ e ∈ l, OkE e) : ∀ x ∈ e :: l, OkE x := List.forall_mem_cons.2 ⟨h, hl⟩
theorem okF (es : List (Ent U)) (hes : ∀ e ∈ es, OkE e) (adv : Adv) (n f : Nat) (fn : Func) (hf : Tryz.prog.funcs[f]? = some fn) (h1 : (fn.name == "runtime.NumGoroutine") = false) (h2 : fn.body.isNone = false) (sg : Sig τ) : OkE ⟨f, sg, runFn (U := U) Tryz.prog es adv n fn sg⟩ := runFn_ok univOk mixed hes hf (callable hf h1 h2) sg
noncomputable def lp (Φ : Tab U) (ad : Adv) (fn : Func) (np : Nat) (sg : Sig τ) (n : Nat) (p : List Dir) (st : St U) : Option sg.B := evAt Tryz.prog Φ ad n (match fn.body with | some c => c | none => .skip) p (finOf (U := U) Tryz.prog fn np sg) (fun _ _ => none) (finOf (U := U) Tryz.prog fn np sg) st
end Go.VI
