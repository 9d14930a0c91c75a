import Derived.Test.YtabekdfijifnfaaQFTy
set_option linter.unusedVariables false
set_option linter.unusedSimpArgs false
set_option maxRecDepth 1000000
set_option maxHeartbeats 4000000
namespace Go.VI
open Go Go.Proofs
def sg_ref07_Few : Sig τ := ⟨[(false, T_api_Msg)], [T_bool]⟩
def ad_ref07_Few : Adv := ⟨81, [[1], [1, 50], [2], [1, 3], [1, 3, 55], [1, 3], [1, 3, 65], [2], [1, 4], [1, 4, 70], [1, 4], [1, 4, 80], [2], [2]], [], []⟩
noncomputable def es_ref07_Few : List (Ent U) := []
noncomputable def h_ref07_Few (n : Nat) : S_api_Msg × Unit → Option ((Bool × Unit) × Unit) := runFn (U := U) Try.prog es_ref07_Few ad_ref07_Few n Try.f29 sg_ref07_Few
noncomputable def g_ref07_Few : S_api_Msg × Unit → Option ((Bool × Unit) × Unit) := h_ref07_Few fuel
noncomputable def e_ref07_Few : Ent U := ⟨29, sg_ref07_Few, g_ref07_Few⟩
noncomputable def bd_ref07_Few : Code := match Try.f29.body with | some c => c | none => .skip
noncomputable def fn_ref07_Few : St U → Option ((Bool × Unit) × Unit) := finOf (U := U) Try.prog Try.f29 0 sg_ref07_Few
noncomputable def L_ref07_Few_0 (n m : Nat) (a0 : S_api_Msg) (x3 : Int) : Option ((Bool × Unit) × Unit) :=
  evAt Try.prog (tab es_ref07_Few) ad_ref07_Few n bd_ref07_Few [.r, .r, .l, .r, .l, .at m] fn_ref07_Few (fun _ _ => none) fn_ref07_Few
    [(1, .box [.int .i64 a0.kind, .int .i64 a0.cmd, .int .i64 a0.ver, .str a0.auth, .int .i64 a0.family, .int .i64 a0.ae, .str a0.prefix_, .int .i64 a0.plen, .int .i64 a0.tag, .str a0.next, .int .i64 a0.metric, .str a0.id, .int .i64 a0.seq, .int .i64 a0.seq2, .int .i64 a0.interval, .int .i64 a0.flags, .int .i64 a0.hops, .int .i64 a0.nonce, .int .i64 a0.cost, .str a0.addr, .str a0.orig, .sl 73 a0.list .ro, .int .i64 a0.type_, .str a0.data, .sl 75 a0.subs .ro]), (3, .one (.int .i64 x3))]
noncomputable def L_ref07_Few_1 (n m : Nat) (a0 : S_api_Msg) (x4 : Int) : Option ((Bool × Unit) × Unit) :=
  evAt Try.prog (tab es_ref07_Few) ad_ref07_Few n bd_ref07_Few [.r, .r, .r, .l, .r, .l, .at m] fn_ref07_Few (fun _ _ => none) fn_ref07_Few
    [(1, .box [.int .i64 a0.kind, .int .i64 a0.cmd, .int .i64 a0.ver, .str a0.auth, .int .i64 a0.family, .int .i64 a0.ae, .str a0.prefix_, .int .i64 a0.plen, .int .i64 a0.tag, .str a0.next, .int .i64 a0.metric, .str a0.id, .int .i64 a0.seq, .int .i64 a0.seq2, .int .i64 a0.interval, .int .i64 a0.flags, .int .i64 a0.hops, .int .i64 a0.nonce, .int .i64 a0.cost, .str a0.addr, .str a0.orig, .sl 73 a0.list .ro, .int .i64 a0.type_, .str a0.data, .sl 75 a0.subs .ro]), (4, .one (.int .i64 x4))]
def sg_ref07_FewAll : Sig τ := ⟨[(false, T_list_api_Msg), (false, T_int)], [T_bool]⟩
def ad_ref07_FewAll : Adv := ⟨22, [[0, 1], [0, 9], [4], [0, 5], [0, 5, 13], [0, 5], [0, 5, 21], [4], [4]], [], []⟩
noncomputable def es_ref07_FewAll : List (Ent U) := [e_ref07_Few]
noncomputable def h_ref07_FewAll (n : Nat) : (List S_api_Msg) × Int × Unit → Option ((Bool × Unit) × Unit) := runFn (U := U) Try.prog es_ref07_FewAll ad_ref07_FewAll n Try.f12 sg_ref07_FewAll
noncomputable def g_ref07_FewAll : (List S_api_Msg) × Int × Unit → Option ((Bool × Unit) × Unit) := h_ref07_FewAll fuel
noncomputable def e_ref07_FewAll : Ent U := ⟨12, sg_ref07_FewAll, g_ref07_FewAll⟩
noncomputable def bd_ref07_FewAll : Code := match Try.f12.body with | some c => c | none => .skip
noncomputable def fn_ref07_FewAll : St U → Option ((Bool × Unit) × Unit) := finOf (U := U) Try.prog Try.f12 0 sg_ref07_FewAll
noncomputable def L_ref07_FewAll_0 (n m : Nat) (a0 : List S_api_Msg) (x5 : Int) : Option ((Bool × Unit) × Unit) :=
  evAt Try.prog (tab es_ref07_FewAll) ad_ref07_FewAll n bd_ref07_FewAll [.r, .r, .l, .r, .l, .at m] fn_ref07_FewAll (fun _ _ => none) fn_ref07_FewAll
    [(0, .one (.sl 61 a0 .ro)), (5, .one (.int .i64 x5))]
def sg_msg_strip : Sig τ := ⟨[(false, T_api_Msg)], [T_msg_plain]⟩
def ad_msg_strip : Adv := ⟨50, [[1, 2], [2]], [], []⟩
noncomputable def es_msg_strip : List (Ent U) := []
noncomputable def g_msg_strip : S_api_Msg × Unit → Option ((S_msg_plain × Unit) × Unit) := runFn (U := U) Try.prog es_msg_strip ad_msg_strip 0 Try.f88 sg_msg_strip
noncomputable def e_msg_strip : Ent U := ⟨88, sg_msg_strip, g_msg_strip⟩
def sg_msg_Bare : Sig τ := ⟨[(false, T_api_Msg)], [T_bool]⟩
def ad_msg_Bare : Adv := ⟨116, [[1], [1, 3], [1, 3, 4, 5], [1, 3, 4, 5, 13], [2], [1, 3, 4, 5, 13, 14], [1, 3, 4, 5, 13, 14], [1, 3, 4], [1, 3, 4, 25], [1, 3, 4], [1, 3, 4, 5], [1, 3, 4, 5, 13, 33], [1, 3, 4, 5], [1, 3, 4, 5, 13, 42], [1, 3, 4, 5], [1, 3, 4, 5, 13, 51], [1, 3, 4, 5], [1, 3, 4, 5, 13, 54], [1, 3, 4, 5, 13, 56], [1, 3, 4, 5], [1, 3, 4, 5, 13, 60], [1, 3, 4, 5], [1, 3, 4, 5, 13, 63], [1, 3, 4, 5], [1, 3, 4, 5, 13, 68], [1, 3, 4, 5], [1, 3, 4, 5, 13, 74], [1, 3, 4, 5], [1, 3, 4, 5, 13, 84], [1, 3, 4, 5], [1, 3, 4, 5, 13, 89], [1, 3, 4, 5], [1, 3, 4, 97], [1, 3, 4], [1, 3, 4, 5], [2]], [], []⟩
noncomputable def es_msg_Bare : List (Ent U) := [e_msg_strip]
noncomputable def g_msg_Bare : S_api_Msg × Unit → Option ((Bool × Unit) × Unit) := runFn (U := U) Try.prog es_msg_Bare ad_msg_Bare 0 Try.f48 sg_msg_Bare
noncomputable def e_msg_Bare : Ent U := ⟨48, sg_msg_Bare, g_msg_Bare⟩
def sg_msg_Subs : Sig τ := ⟨[(false, T_list_api_Sub), (false, T_int), (false, T_int)], [T_bool]⟩
def ad_msg_Subs : Adv := ⟨32, [[0, 1, 2], [1, 2, 9, 10, 11], [1, 2, 9, 10, 11, 12], [1, 2, 8, 9, 10, 11], [1, 2, 9, 10, 11, 30], [6], [1, 2, 9, 10, 11], [6]], [], []⟩
noncomputable def es_msg_Subs : List (Ent U) := []
noncomputable def h_msg_Subs (n : Nat) : (List S_api_Sub) × Int × Int × Unit → Option ((Bool × Unit) × Unit) := runFn (U := U) Try.prog es_msg_Subs ad_msg_Subs n Try.f134 sg_msg_Subs
noncomputable def g_msg_Subs : (List S_api_Sub) × Int × Int × Unit → Option ((Bool × Unit) × Unit) := h_msg_Subs fuel
noncomputable def e_msg_Subs : Ent U := ⟨134, sg_msg_Subs, g_msg_Subs⟩
noncomputable def bd_msg_Subs : Code := match Try.f134.body with | some c => c | none => .skip
noncomputable def fn_msg_Subs : St U → Option ((Bool × Unit) × Unit) := finOf (U := U) Try.prog Try.f134 0 sg_msg_Subs
noncomputable def L_msg_Subs_0 (n m : Nat) (a1 : Int) (a2 : Int) (a0 : List S_api_Sub) (x11 : Int) : Option ((Bool × Unit) × Unit) :=
  evAt Try.prog (tab es_msg_Subs) ad_msg_Subs n bd_msg_Subs [.r, .l, .r, .l, .at m] fn_msg_Subs (fun _ _ => none) fn_msg_Subs
    [(1, .one (.int .i64 a1)), (2, .one (.int .i64 a2)), (9, .one (.sl 75 a0 .ro)), (10, .one (.int .i64 (a0.length : Int))), (11, .one (.int .i64 x11))]
def sg_msg_Bytes : Sig τ := ⟨[(false, T_list_api_Sub)], [T_int]⟩
def ad_msg_Bytes : Adv := ⟨20, [[0], [0, 3], [3, 6, 7, 8], [3, 6, 7, 8, 9], [3, 5, 6, 7, 8], [3, 6, 7, 8], [3, 6, 7, 8], [2]], [], []⟩
noncomputable def es_msg_Bytes : List (Ent U) := []
noncomputable def h_msg_Bytes (n : Nat) : (List S_api_Sub) × Unit → Option ((Int × Unit) × Unit) := runFn (U := U) Try.prog es_msg_Bytes ad_msg_Bytes n Try.f135 sg_msg_Bytes
noncomputable def g_msg_Bytes : (List S_api_Sub) × Unit → Option ((Int × Unit) × Unit) := h_msg_Bytes fuel
noncomputable def e_msg_Bytes : Ent U := ⟨135, sg_msg_Bytes, g_msg_Bytes⟩
noncomputable def bd_msg_Bytes : Code := match Try.f135.body with | some c => c | none => .skip
noncomputable def fn_msg_Bytes : St U → Option ((Int × Unit) × Unit) := finOf (U := U) Try.prog Try.f135 0 sg_msg_Bytes
noncomputable def L_msg_Bytes_0 (n m : Nat) (a0 : List S_api_Sub) (x3 : Int) (x8 : Int) : Option ((Int × Unit) × Unit) :=
  evAt Try.prog (tab es_msg_Bytes) ad_msg_Bytes n bd_msg_Bytes [.r, .r, .l, .r, .l, .at m] fn_msg_Bytes (fun _ _ => none) fn_msg_Bytes
    [(3, .one (.int .i64 x3)), (6, .one (.sl 75 a0 .ro)), (7, .one (.int .i64 (a0.length : Int))), (8, .one (.int .i64 x8))]
def sg_sub_Right : Sig τ := ⟨[(false, T_list_api_Sub)], [T_bool]⟩
def ad_sub_Right : Adv := ⟨10, [[0], [2]], [], []⟩
noncomputable def es_sub_Right : List (Ent U) := [e_msg_Subs, e_msg_Bytes]
noncomputable def g_sub_Right : (List S_api_Sub) × Unit → Option ((Bool × Unit) × Unit) := runFn (U := U) Try.prog es_sub_Right ad_sub_Right 0 Try.f83 sg_sub_Right
noncomputable def e_sub_Right : Ent U := ⟨83, sg_sub_Right, g_sub_Right⟩
def sg_route_shapes : Sig τ := ⟨[], [T_4_route_shape]⟩
def ad_route_shapes : Adv := ⟨6, [[0], [0]], [], []⟩
noncomputable def es_route_shapes : List (Ent U) := []
noncomputable def g_route_shapes : Unit → Option ((S_4_route_shape × Unit) × Unit) := runFn (U := U) Try.prog es_route_shapes ad_route_shapes 0 Try.f136 sg_route_shapes
noncomputable def e_route_shapes : Ent U := ⟨136, sg_route_shapes, g_route_shapes⟩
def sg_bits_Keep : Sig τ := ⟨[(false, T_string), (false, T_int)], [T_string]⟩
def ad_bits_Keep : Adv := ⟨40, [[0, 1], [0, 1, 11], [4], [0, 1, 5], [0, 1, 5, 17], [4], [0, 1, 5, 6], [0, 1, 5, 6], [5], [4]], [], []⟩
noncomputable def es_bits_Keep : List (Ent U) := []
noncomputable def g_bits_Keep : (List UInt8) × Int × Unit → Option (((List UInt8) × Unit) × Unit) := runFn (U := U) Try.prog es_bits_Keep ad_bits_Keep 0 Try.f156 sg_bits_Keep
noncomputable def e_bits_Keep : Ent U := ⟨156, sg_bits_Keep, g_bits_Keep⟩
def sg_bits_Clean : Sig τ := ⟨[(false, T_string), (false, T_int)], [T_bool]⟩
def ad_bits_Clean : Adv := ⟨10, [[0, 1], [4]], [], []⟩
noncomputable def es_bits_Clean : List (Ent U) := [e_bits_Keep]
noncomputable def g_bits_Clean : (List UInt8) × Int × Unit → Option ((Bool × Unit) × Unit) := runFn (U := U) Try.prog es_bits_Clean ad_bits_Clean 0 Try.f137 sg_bits_Clean
noncomputable def e_bits_Clean : Ent U := ⟨137, sg_bits_Clean, g_bits_Clean⟩
def sg_internal_stringslite_HasPrefix : Sig τ := ⟨[(false, T_string), (false, T_string)], [T_bool]⟩
def ad_internal_stringslite_HasPrefix : Adv := ⟨18, [[0, 1], [4]], [], []⟩
noncomputable def es_internal_stringslite_HasPrefix : List (Ent U) := []
noncomputable def g_internal_stringslite_HasPrefix : (List UInt8) × (List UInt8) × Unit → Option ((Bool × Unit) × Unit) := runFn (U := U) Try.prog es_internal_stringslite_HasPrefix ad_internal_stringslite_HasPrefix 0 Try.f166 sg_internal_stringslite_HasPrefix
noncomputable def e_internal_stringslite_HasPrefix : Ent U := ⟨166, sg_internal_stringslite_HasPrefix, g_internal_stringslite_HasPrefix⟩
def sg_strings_HasPrefix : Sig τ := ⟨[(false, T_string), (false, T_string)], [T_bool]⟩
def ad_strings_HasPrefix : Adv := ⟨8, [[0, 1], [4]], [], []⟩
noncomputable def es_strings_HasPrefix : List (Ent U) := [e_internal_stringslite_HasPrefix]
noncomputable def g_strings_HasPrefix : (List UInt8) × (List UInt8) × Unit → Option ((Bool × Unit) × Unit) := runFn (U := U) Try.prog es_strings_HasPrefix ad_strings_HasPrefix 0 Try.f160 sg_strings_HasPrefix
noncomputable def e_strings_HasPrefix : Ent U := ⟨160, sg_strings_HasPrefix, g_strings_HasPrefix⟩
def sg_addr_Link : Sig τ := ⟨[(false, T_string)], [T_bool]⟩
def ad_addr_Link : Adv := ⟨10, [[0], [2]], [], []⟩
noncomputable def es_addr_Link : List (Ent U) := [e_strings_HasPrefix]
noncomputable def g_addr_Link : (List UInt8) × Unit → Option ((Bool × Unit) × Unit) := runFn (U := U) Try.prog es_addr_Link ad_addr_Link 0 Try.f138 sg_addr_Link
noncomputable def e_addr_Link : Ent U := ⟨138, sg_addr_Link, g_addr_Link⟩
def sg_route_In : Sig τ := ⟨[(false, T_int), (false, T_string), (false, T_int)], [T_bool]⟩
def ad_route_In : Adv := ⟨47, [[0, 1, 2], [0, 1, 2, 13], [6], [0, 1, 2, 7], [6]], [], []⟩
noncomputable def es_route_In : List (Ent U) := [e_route_shapes, e_bits_Clean, e_addr_Link]
noncomputable def g_route_In : Int × (List UInt8) × Int × Unit → Option ((Bool × Unit) × Unit) := runFn (U := U) Try.prog es_route_In ad_route_In 0 Try.f84 sg_route_In
noncomputable def e_route_In : Ent U := ⟨84, sg_route_In, g_route_In⟩
def sg_octet_Fits : Sig τ := ⟨[(false, T_int), (false, T_int)], [T_bool]⟩
def ad_octet_Fits : Adv := ⟨23, [[0, 1], [4]], [], []⟩
noncomputable def es_octet_Fits : List (Ent U) := []
noncomputable def g_octet_Fits : Int × Int × Unit → Option ((Bool × Unit) × Unit) := runFn (U := U) Try.prog es_octet_Fits ad_octet_Fits 0 Try.f85 sg_octet_Fits
noncomputable def e_octet_Fits : Ent U := ⟨85, sg_octet_Fits, g_octet_Fits⟩
def sg_addr_Family : Sig τ := ⟨[(false, T_string)], [T_int]⟩
def ad_addr_Family : Adv := ⟨9, [[0], [4], [4, 5], [2], [7], [2], [2]], [], []⟩
noncomputable def es_addr_Family : List (Ent U) := []
noncomputable def g_addr_Family : (List UInt8) × Unit → Option ((Int × Unit) × Unit) := runFn (U := U) Try.prog es_addr_Family ad_addr_Family 0 Try.f87 sg_addr_Family
noncomputable def e_addr_Family : Ent U := ⟨87, sg_addr_Family, g_addr_Family⟩
def sg_ctx_Family : Sig τ := ⟨[(false, T_int)], [T_int]⟩
def ad_ctx_Family : Adv := ⟨9, [[0], [3], [3, 4], [2], [3, 6], [6], [2], [2]], [], []⟩
noncomputable def es_ctx_Family : List (Ent U) := []
noncomputable def g_ctx_Family : Int × Unit → Option ((Int × Unit) × Unit) := runFn (U := U) Try.prog es_ctx_Family ad_ctx_Family 0 Try.f51 sg_ctx_Family
noncomputable def e_ctx_Family : Ent U := ⟨51, sg_ctx_Family, g_ctx_Family⟩
def sg_ctx_either : Sig τ := ⟨[(false, T_string), (false, T_bool)], [T_bool]⟩
def ad_ctx_either : Adv := ⟨10, [[0, 1], [4]], [], []⟩
noncomputable def es_ctx_either : List (Ent U) := []
noncomputable def g_ctx_either : (List UInt8) × Bool × Unit → Option ((Bool × Unit) × Unit) := runFn (U := U) Try.prog es_ctx_either ad_ctx_either 0 Try.f86 sg_ctx_either
noncomputable def e_ctx_either : Ent U := ⟨86, sg_ctx_either, g_ctx_either⟩
def sg_ctx_Right : Sig τ := ⟨[(false, T_api_Msg)], [T_bool]⟩
def ad_ctx_Right : Adv := ⟨76, [[1], [1, 3], [2], [1, 28], [2], [1, 45], [2], [2]], [], []⟩
noncomputable def es_ctx_Right : List (Ent U) := [e_msg_Bare, e_sub_Right, e_route_In, e_octet_Fits, e_addr_Family, e_ctx_Family, e_ctx_either]
noncomputable def g_ctx_Right : S_api_Msg × Unit → Option ((Bool × Unit) × Unit) := runFn (U := U) Try.prog es_ctx_Right ad_ctx_Right 0 Try.f46 sg_ctx_Right
noncomputable def e_ctx_Right : Ent U := ⟨46, sg_ctx_Right, g_ctx_Right⟩
def sg_route_Right : Sig τ := ⟨[(false, T_api_Msg)], [T_bool]⟩
def ad_route_Right : Adv := ⟨52, [[1], [1, 21], [2], [1, 23], [1, 23, 24], [2], [1, 26], [2], [2]], [], []⟩
noncomputable def es_route_Right : List (Ent U) := [e_msg_Bare, e_sub_Right, e_route_In, e_octet_Fits]
noncomputable def g_route_Right : S_api_Msg × Unit → Option ((Bool × Unit) × Unit) := runFn (U := U) Try.prog es_route_Right ad_route_Right 0 Try.f47 sg_route_Right
noncomputable def e_route_Right : Ent U := ⟨47, sg_route_Right, g_route_Right⟩
def sg_field_address : Sig τ := ⟨[(false, T_int), (false, T_string)], [T_bool]⟩
def ad_field_address : Adv := ⟨26, [[0, 1], [0, 1, 5], [0, 1, 5, 6], [4], [0, 1, 5, 10], [4], [0, 1, 15], [4], [4]], [], []⟩
noncomputable def es_field_address : List (Ent U) := [e_addr_Family, e_addr_Link]
noncomputable def g_field_address : Int × (List UInt8) × Unit → Option ((Bool × Unit) × Unit) := runFn (U := U) Try.prog es_field_address ad_field_address 0 Try.f89 sg_field_address
noncomputable def e_field_address : Ent U := ⟨89, sg_field_address, g_field_address⟩
def sg_field_Right : Sig τ := ⟨[(false, T_api_Msg)], [T_bool]⟩
def ad_field_Right : Adv := ⟨57, [[1], [1, 13, 14, 15], [1, 13, 14, 15, 16], [1, 4, 13, 14, 15], [1, 13, 14, 15, 21], [2], [1, 13, 14, 15], [1, 31], [2], [1, 33], [1, 33, 34], [1, 33, 34], [2], [1, 37], [2], [2]], [], []⟩
noncomputable def es_field_Right : List (Ent U) := [e_octet_Fits, e_msg_Bare, e_sub_Right, e_field_address]
noncomputable def h_field_Right (n : Nat) : S_api_Msg × Unit → Option ((Bool × Unit) × Unit) := runFn (U := U) Try.prog es_field_Right ad_field_Right n Try.f49 sg_field_Right
noncomputable def g_field_Right : S_api_Msg × Unit → Option ((Bool × Unit) × Unit) := h_field_Right fuel
noncomputable def e_field_Right : Ent U := ⟨49, sg_field_Right, g_field_Right⟩
noncomputable def bd_field_Right : Code := match Try.f49.body with | some c => c | none => .skip
noncomputable def fn_field_Right : St U → Option ((Bool × Unit) × Unit) := finOf (U := U) Try.prog Try.f49 0 sg_field_Right
noncomputable def L_field_Right_0 (n m : Nat) (a0 : S_api_Msg) (x13 : List Int) (x14 : Int) (x15 : Int) : Option ((Bool × Unit) × Unit) :=
  evAt Try.prog (tab es_field_Right) ad_field_Right n bd_field_Right [.r, .l, .r, .l, .at m] fn_field_Right (fun _ _ => none) fn_field_Right
    [(1, .box [.int .i64 a0.kind, .int .i64 a0.cmd, .int .i64 a0.ver, .str a0.auth, .int .i64 a0.family, .int .i64 a0.ae, .str a0.prefix_, .int .i64 a0.plen, .int .i64 a0.tag, .str a0.next, .int .i64 a0.metric, .str a0.id, .int .i64 a0.seq, .int .i64 a0.seq2, .int .i64 a0.interval, .int .i64 a0.flags, .int .i64 a0.hops, .int .i64 a0.nonce, .int .i64 a0.cost, .str a0.addr, .str a0.orig, .sl 73 a0.list .ro, .int .i64 a0.type_, .str a0.data, .sl 75 a0.subs .ro]), (13, .one (.sl 3 x13 .app)), (14, .one (.int .i64 x14)), (15, .one (.int .i64 x15))]
def sg_lean_Right : Sig τ := ⟨[(false, T_api_Msg)], [T_bool]⟩
def ad_lean_Right : Adv := ⟨36, [[1], [1, 4], [1, 4, 5], [2], [1, 4, 9], [1, 4, 9], [2], [1, 14], [2], [2]], [], []⟩
noncomputable def es_lean_Right : List (Ent U) := [e_ctx_Right, e_route_Right, e_msg_Bare, e_field_Right]
noncomputable def g_lean_Right : S_api_Msg × Unit → Option ((Bool × Unit) × Unit) := runFn (U := U) Try.prog es_lean_Right ad_lean_Right 0 Try.f30 sg_lean_Right
noncomputable def e_lean_Right : Ent U := ⟨30, sg_lean_Right, g_lean_Right⟩
def sg_frame_Put : Sig τ := ⟨[(false, T_int), (false, T_string)], [T_string, T_bool]⟩
def ad_frame_Put : Adv := ⟨26, [[0, 1], [0, 1, 16], [4, 5], [4, 5]], [], []⟩
noncomputable def es_frame_Put : List (Ent U) := []
noncomputable def g_frame_Put : Int × (List UInt8) × Unit → Option (((List UInt8) × Bool × Unit) × Unit) := runFn (U := U) Try.prog es_frame_Put ad_frame_Put 0 Try.f91 sg_frame_Put
noncomputable def e_frame_Put : Ent U := ⟨91, sg_frame_Put, g_frame_Put⟩
def sg_sub_Put : Sig τ := ⟨[(false, T_list_api_Sub)], [T_string, T_bool]⟩
def ad_sub_Put : Adv := ⟨32, [[0], [0, 11], [2, 3], [0, 4], [4, 12, 13, 14], [4, 12, 13, 14, 15], [4, 6, 12, 13, 14], [4, 7, 12, 13, 14], [4, 12, 13, 14], [4, 12, 13, 14], [2, 3]], [26], []⟩
noncomputable def es_sub_Put : List (Ent U) := [e_sub_Right, e_frame_Put]
noncomputable def h_sub_Put (n : Nat) : (List S_api_Sub) × Unit → Option (((List UInt8) × Bool × Unit) × Unit) := runFn (U := U) Try.prog es_sub_Put ad_sub_Put n Try.f95 sg_sub_Put
noncomputable def g_sub_Put : (List S_api_Sub) × Unit → Option (((List UInt8) × Bool × Unit) × Unit) := h_sub_Put fuel
noncomputable def e_sub_Put : Ent U := ⟨95, sg_sub_Put, g_sub_Put⟩
noncomputable def bd_sub_Put : Code := match Try.f95.body with | some c => c | none => .skip
noncomputable def fn_sub_Put : St U → Option (((List UInt8) × Bool × Unit) × Unit) := finOf (U := U) Try.prog Try.f95 0 sg_sub_Put
noncomputable def L_sub_Put_0 (n m : Nat) (a0 : List S_api_Sub) (x4 : List UInt8) (x14 : Int) : Option (((List UInt8) × Bool × Unit) × Unit) :=
  evAt Try.prog (tab es_sub_Put) ad_sub_Put n bd_sub_Put [.r, .r, .r, .l, .r, .l, .at m] fn_sub_Put (fun _ _ => none) fn_sub_Put
    [(4, .one (.bs 5 x4 .app)), (12, .one (.sl 75 a0 .ro)), (13, .one (.int .i64 (a0.length : Int))), (14, .one (.int .i64 x14))]
def sg_prefix_Least : Sig τ := ⟨[(false, T_int)], [T_int]⟩
def ad_prefix_Least : Adv := ⟨7, [[0], [2]], [], []⟩
noncomputable def es_prefix_Least : List (Ent U) := []
noncomputable def g_prefix_Least : Int × Unit → Option ((Int × Unit) × Unit) := runFn (U := U) Try.prog es_prefix_Least ad_prefix_Least 0 Try.f154 sg_prefix_Least
noncomputable def e_prefix_Least : Ent U := ⟨154, sg_prefix_Least, g_prefix_Least⟩
def sg_prefix_Cut : Sig τ := ⟨[(false, T_string), (false, T_int)], [T_string]⟩
def ad_prefix_Cut : Adv := ⟨16, [[0, 1], [1, 5], [4]], [], []⟩
noncomputable def es_prefix_Cut : List (Ent U) := [e_prefix_Least, e_bits_Keep]
noncomputable def g_prefix_Cut : (List UInt8) × Int × Unit → Option (((List UInt8) × Unit) × Unit) := runFn (U := U) Try.prog es_prefix_Cut ad_prefix_Cut 0 Try.f139 sg_prefix_Cut
noncomputable def e_prefix_Cut : Ent U := ⟨139, sg_prefix_Cut, g_prefix_Cut⟩
def sg_route_Put : Sig τ := ⟨[(false, T_api_Msg)], [T_string, T_bool]⟩
def ad_route_Put : Adv := ⟨65, [[1], [1, 10], [2, 3], [1, 4], [1, 4, 6], [1, 4, 6, 7], [1, 4, 6, 7, 26], [1, 4, 6, 7], [1, 4, 6, 7], [1, 4, 6, 7], [4, 6, 7], [2, 3]], [27, 40, 44], []⟩
noncomputable def es_route_Put : List (Ent U) := [e_route_Right, e_sub_Put, e_prefix_Cut, e_route_shapes, e_frame_Put]
noncomputable def g_route_Put : S_api_Msg × Unit → Option (((List UInt8) × Bool × Unit) × Unit) := runFn (U := U) Try.prog es_route_Put ad_route_Put 0 Try.f90 sg_route_Put
noncomputable def e_route_Put : Ent U := ⟨90, sg_route_Put, g_route_Put⟩
def sg_field_writer_two : Sig τ := ⟨[(true, T_field_writer), (false, T_list_int)], []⟩
def ad_field_writer_two : Adv := ⟨27, [[0, 6, 7, 8], [0, 6, 7, 8, 9], [0, 5, 6, 7, 8], [0, 6, 7, 8], [0, 6, 7, 8]], [16], []⟩
noncomputable def es_field_writer_two : List (Ent U) := []
noncomputable def h_field_writer_two (n : Nat) : S_field_writer × (List Int) × Unit → Option ((Unit) × (S_field_writer × Unit)) := runFn (U := U) Try.prog es_field_writer_two ad_field_writer_two n Try.f140 sg_field_writer_two
noncomputable def g_field_writer_two : S_field_writer × (List Int) × Unit → Option ((Unit) × (S_field_writer × Unit)) := h_field_writer_two fuel
noncomputable def e_field_writer_two : Ent U := ⟨140, sg_field_writer_two, g_field_writer_two⟩
noncomputable def bd_field_writer_two : Code := match Try.f140.body with | some c => c | none => .skip
noncomputable def fn_field_writer_two : St U → Option ((Unit) × (S_field_writer × Unit)) := finOf (U := U) Try.prog Try.f140 1 sg_field_writer_two
noncomputable def L_field_writer_two_0 (n m : Nat) (a1 : List Int) (x8 : Int) (x1000000 : List UInt8) : Option ((Unit) × (S_field_writer × Unit)) :=
  evAt Try.prog (tab es_field_writer_two) ad_field_writer_two n bd_field_writer_two [.r, .l, .at m] fn_field_writer_two (fun _ _ => none) fn_field_writer_two
    [(0, .one (.ref 1000000 0)), (6, .one (.sl 3 a1 .ro)), (7, .one (.int .i64 (a1.length : Int))), (8, .one (.int .i64 x8)), (1000000, .box [.bs 5 x1000000 .app])]
def sg_addr_Short : Sig τ := ⟨[(false, T_string)], [T_string, T_bool]⟩
def ad_addr_Short : Adv := ⟨9, [[0], [0, 6], [2, 3], [2, 3]], [], []⟩
noncomputable def es_addr_Short : List (Ent U) := [e_addr_Link]
noncomputable def g_addr_Short : (List UInt8) × Unit → Option (((List UInt8) × Bool × Unit) × Unit) := runFn (U := U) Try.prog es_addr_Short ad_addr_Short 0 Try.f94 sg_addr_Short
noncomputable def e_addr_Short : Ent U := ⟨94, sg_addr_Short, g_addr_Short⟩
def sg_field_Put : Sig τ := ⟨[(false, T_api_Msg)], [T_string, T_bool]⟩
def ad_field_Put : Adv := ⟨107, [[1], [1, 11], [2, 3], [1, 4], [1, 4, 15], [1, 4, 15, 16], [1, 4], [1, 4, 15, 25], [1, 4], [1, 4, 15, 32], [1, 4], [1, 4, 44], [1, 4], [1, 4, 5, 6], [1, 4, 5, 67], [1, 4], [1, 4], [1, 4, 7], [2, 3]], [72, 81], []⟩
noncomputable def es_field_Put : List (Ent U) := [e_field_Right, e_field_writer_two, e_sub_Put, e_frame_Put, e_addr_Short]
noncomputable def g_field_Put : S_api_Msg × Unit → Option (((List UInt8) × Bool × Unit) × Unit) := runFn (U := U) Try.prog es_field_Put ad_field_Put 0 Try.f92 sg_field_Put
noncomputable def e_field_Put : Ent U := ⟨92, sg_field_Put, g_field_Put⟩
def sg_lean_other : Sig τ := ⟨[(false, T_api_Msg)], [T_string]⟩
def ad_lean_other : Adv := ⟨30, [[1], [1], [1, 5], [3], [1, 5, 11], [1, 5, 11], [3], [1, 19], [3], [2]], [], []⟩
noncomputable def es_lean_other : List (Ent U) := [e_route_Put, e_frame_Put, e_field_Put]
noncomputable def g_lean_other : S_api_Msg × Unit → Option (((List UInt8) × Unit) × Unit) := runFn (U := U) Try.prog es_lean_other ad_lean_other 0 Try.f50 sg_lean_other
noncomputable def e_lean_other : Ent U := ⟨50, sg_lean_other, g_lean_other⟩
def sg_lean_writer_put : Sig τ := ⟨[(true, T_lean_writer), (false, T_int), (false, T_string)], []⟩
def ad_lean_writer_put : Adv := ⟨23, [[0, 6], []], [18], []⟩
noncomputable def es_lean_writer_put : List (Ent U) := [e_frame_Put]
noncomputable def g_lean_writer_put : S_lean_writer × Int × (List UInt8) × Unit → Option ((Unit) × (S_lean_writer × Unit)) := runFn (U := U) Try.prog es_lean_writer_put ad_lean_writer_put 0 Try.f93 sg_lean_writer_put
noncomputable def e_lean_writer_put : Ent U := ⟨93, sg_lean_writer_put, g_lean_writer_put⟩
def sg_lean_writer_id : Sig τ := ⟨[(true, T_lean_writer), (false, T_string)], []⟩
def ad_lean_writer_id : Adv := ⟨13, [[0, 1], []], [], []⟩
noncomputable def es_lean_writer_id : List (Ent U) := [e_lean_writer_put]
noncomputable def g_lean_writer_id : S_lean_writer × (List UInt8) × Unit → Option ((Unit) × (S_lean_writer × Unit)) := runFn (U := U) Try.prog es_lean_writer_id ad_lean_writer_id 0 Try.f52 sg_lean_writer_id
noncomputable def e_lean_writer_id : Ent U := ⟨52, sg_lean_writer_id, g_lean_writer_id⟩
def sg_lean_writer_hop : Sig τ := ⟨[(true, T_lean_writer), (false, T_int), (false, T_string)], []⟩
def ad_lean_writer_hop : Adv := ⟨37, [[0, 1, 2, 6, 7], [0, 1, 2], [0, 1, 2, 6, 17], [0, 1, 2], [0, 1, 2, 23], [0, 1, 2], []], [], []⟩
noncomputable def es_lean_writer_hop : List (Ent U) := [e_addr_Short, e_lean_writer_put]
noncomputable def g_lean_writer_hop : S_lean_writer × Int × (List UInt8) × Unit → Option ((Unit) × (S_lean_writer × Unit)) := runFn (U := U) Try.prog es_lean_writer_hop ad_lean_writer_hop 0 Try.f53 sg_lean_writer_hop
noncomputable def e_lean_writer_hop : Ent U := ⟨53, sg_lean_writer_hop, g_lean_writer_hop⟩
def sg_lean_base : Sig τ := ⟨[(false, T_int)], [T_int]⟩
def ad_lean_base : Adv := ⟨5, [[0], [4], [2], [2]], [], []⟩
noncomputable def es_lean_base : List (Ent U) := []
noncomputable def g_lean_base : Int × Unit → Option ((Int × Unit) × Unit) := runFn (U := U) Try.prog es_lean_base ad_lean_base 0 Try.f98 sg_lean_base
noncomputable def e_lean_base : Ent U := ⟨98, sg_lean_base, g_lean_base⟩
def sg_lean_bytes : Sig τ := ⟨[(false, T_api_Msg)], [T_string]⟩
def ad_lean_bytes : Adv := ⟨12, [[1], [2]], [], []⟩
noncomputable def es_lean_bytes : List (Ent U) := [e_prefix_Cut, e_lean_base]
noncomputable def g_lean_bytes : S_api_Msg × Unit → Option (((List UInt8) × Unit) × Unit) := runFn (U := U) Try.prog es_lean_bytes ad_lean_bytes 0 Try.f96 sg_lean_bytes
noncomputable def e_lean_bytes : Ent U := ⟨96, sg_lean_bytes, g_lean_bytes⟩
def sg_math_bits_Len8 : Sig τ := ⟨[(false, T_uint8)], [T_int]⟩
def ad_math_bits_Len8 : Adv := ⟨6, [[0], [2]], [], []⟩
noncomputable def es_math_bits_Len8 : List (Ent U) := []
noncomputable def g_math_bits_Len8 : Int × Unit → Option ((Int × Unit) × Unit) := runFn (U := U) Try.prog es_math_bits_Len8 ad_math_bits_Len8 0 Try.f167 sg_math_bits_Len8
noncomputable def e_math_bits_Len8 : Ent U := ⟨167, sg_math_bits_Len8, g_math_bits_Len8⟩
def sg_math_bits_LeadingZeros8 : Sig τ := ⟨[(false, T_uint8)], [T_int]⟩
def ad_math_bits_LeadingZeros8 : Adv := ⟨6, [[0], [2]], [], []⟩
noncomputable def es_math_bits_LeadingZeros8 : List (Ent U) := [e_math_bits_Len8]
noncomputable def g_math_bits_LeadingZeros8 : Int × Unit → Option ((Int × Unit) × Unit) := runFn (U := U) Try.prog es_math_bits_LeadingZeros8 ad_math_bits_LeadingZeros8 0 Try.f161 sg_math_bits_LeadingZeros8
noncomputable def e_math_bits_LeadingZeros8 : Ent U := ⟨161, sg_math_bits_LeadingZeros8, g_math_bits_LeadingZeros8⟩
def sg_bits_Alike : Sig τ := ⟨[(false, T_string), (false, T_string)], [T_int]⟩
def ad_bits_Alike : Adv := ⟨36, [[0, 1], [0, 1, 11, 12], [0, 1, 11, 12, 13], [0, 1, 5, 11, 12], [0, 1, 5, 6, 11, 12], [0, 1, 5, 6, 11, 12, 23], [4], [0, 1, 11, 12], [4]], [], []⟩
noncomputable def es_bits_Alike : List (Ent U) := [e_math_bits_LeadingZeros8]
noncomputable def h_bits_Alike (n : Nat) : (List UInt8) × (List UInt8) × Unit → Option ((Int × Unit) × Unit) := runFn (U := U) Try.prog es_bits_Alike ad_bits_Alike n Try.f141 sg_bits_Alike
noncomputable def g_bits_Alike : (List UInt8) × (List UInt8) × Unit → Option ((Int × Unit) × Unit) := h_bits_Alike fuel
noncomputable def e_bits_Alike : Ent U := ⟨141, sg_bits_Alike, g_bits_Alike⟩
noncomputable def bd_bits_Alike : Code := match Try.f141.body with | some c => c | none => .skip
noncomputable def fn_bits_Alike : St U → Option ((Int × Unit) × Unit) := finOf (U := U) Try.prog Try.f141 0 sg_bits_Alike
noncomputable def L_bits_Alike_0 (n m : Nat) (a0 : List UInt8) (a1 : List UInt8) (x11 : Int) (x12 : Int) : Option ((Int × Unit) × Unit) :=
  evAt Try.prog (tab es_bits_Alike) ad_bits_Alike n bd_bits_Alike [.r, .l, .r, .l, .at m] fn_bits_Alike (fun _ _ => none) fn_bits_Alike
    [(0, .one (.str a0)), (1, .one (.str a1)), (11, .one (.int .i64 x11)), (12, .one (.int .i64 x12))]
def sg_prefix_Lead : Sig τ := ⟨[(false, T_string), (false, T_string)], [T_int]⟩
def ad_prefix_Lead : Adv := ⟨9, [[0, 1], [4]], [], []⟩
noncomputable def es_prefix_Lead : List (Ent U) := [e_bits_Alike]
noncomputable def g_prefix_Lead : (List UInt8) × (List UInt8) × Unit → Option ((Int × Unit) × Unit) := runFn (U := U) Try.prog es_prefix_Lead ad_prefix_Lead 0 Try.f97 sg_prefix_Lead
noncomputable def e_prefix_Lead : Ent U := ⟨97, sg_prefix_Lead, g_prefix_Lead⟩
def sg_lean_writer_omitted : Sig τ := ⟨[(true, T_lean_writer), (false, T_api_Msg)], [T_int]⟩
def ad_lean_writer_omitted : Adv := ⟨24, [[0, 3], [3, 5], [3, 5, 15], [4], [4]], [], []⟩
noncomputable def es_lean_writer_omitted : List (Ent U) := [e_lean_base, e_lean_bytes, e_prefix_Lead]
noncomputable def g_lean_writer_omitted : S_lean_writer × S_api_Msg × Unit → Option ((Int × Unit) × (S_lean_writer × Unit)) := runFn (U := U) Try.prog es_lean_writer_omitted ad_lean_writer_omitted 0 Try.f55 sg_lean_writer_omitted
noncomputable def e_lean_writer_omitted : Ent U := ⟨55, sg_lean_writer_omitted, g_lean_writer_omitted⟩
def sg_lean_writer_update : Sig τ := ⟨[(true, T_lean_writer), (false, T_api_Msg), (false, T_int)], []⟩
def ad_lean_writer_update : Adv := ⟨72, [[0, 2, 4], [0, 2, 4, 6], [0, 2, 4, 6, 22], [0, 2, 4, 6], [0, 2, 4, 6], [0, 2, 4, 6, 40, 41, 42], [0, 2, 4, 6, 40, 41, 42, 43], [0, 2, 4, 6, 8, 40, 41, 42], [0, 2, 4, 6, 40, 41, 42], [0, 2, 4, 6, 40, 41, 42], [0, 2, 4, 6, 9], []], [46], [19]⟩
noncomputable def es_lean_writer_update : List (Ent U) := [e_sub_Put, e_lean_bytes, e_lean_writer_put]
noncomputable def h_lean_writer_update (n : Nat) : S_lean_writer × S_api_Msg × Int × Unit → Option ((Unit) × (S_lean_writer × Unit)) := runFn (U := U) Try.prog es_lean_writer_update ad_lean_writer_update n Try.f54 sg_lean_writer_update
noncomputable def g_lean_writer_update : S_lean_writer × S_api_Msg × Int × Unit → Option ((Unit) × (S_lean_writer × Unit)) := h_lean_writer_update fuel
noncomputable def e_lean_writer_update : Ent U := ⟨54, sg_lean_writer_update, g_lean_writer_update⟩
noncomputable def bd_lean_writer_update : Code := match Try.f54.body with | some c => c | none => .skip
noncomputable def fn_lean_writer_update : St U → Option ((Unit) × (S_lean_writer × Unit)) := finOf (U := U) Try.prog Try.f54 1 sg_lean_writer_update
noncomputable def L_lean_writer_update_0 (n m : Nat) (a2 : Int) (a1 : S_api_Msg) (a0 : S_lean_writer) (x19 : List UInt8) (x40 : List Int) (x41 : Int) (x42 : Int) (x1000000_1 : List UInt8) (x1000000_2 : List UInt8) (x1000000_3 : List UInt8) (x1000000_4 : List UInt8) : Option ((Unit) × (S_lean_writer × Unit)) :=
  evAt Try.prog (tab es_lean_writer_update) ad_lean_writer_update n bd_lean_writer_update [.r, .r, .r, .l, .r, .l, .at m] fn_lean_writer_update (fun _ _ => none) fn_lean_writer_update
    [(0, .one (.ref 1000000 0)), (2, .one (.int .i64 a2)), (4, .box [.int .i64 a1.kind, .int .i64 a1.cmd, .int .i64 a1.ver, .str a1.auth, .int .i64 a1.family, .int .i64 a1.ae, .str a1.prefix_, .int .i64 a1.plen, .int .i64 a1.tag, .str a1.next, .int .i64 a1.metric, .str a1.id, .int .i64 a1.seq, .int .i64 a1.seq2, .int .i64 a1.interval, .int .i64 a1.flags, .int .i64 a1.hops, .int .i64 a1.nonce, .int .i64 a1.cost, .str a1.addr, .str a1.orig, .sl 73 a1.list .ro, .int .i64 a1.type_, .str a1.data, .sl 75 a1.subs .ro]), (6, .one (.sref 19)), (19, .bblk 5 x19 true), (40, .one (.sl 3 x40 .app)), (41, .one (.int .i64 x41)), (42, .one (.int .i64 x42)), (1000000, .box [.bs 5 a0.b .app, .str x1000000_1, .str x1000000_2, .str x1000000_3, .str x1000000_4, .str a0.c_Next_c0, .str a0.c_Next_c1, .str a0.c_Id])]
noncomputable def L_lean_writer_update_1 (n m : Nat) (a2 : Int) (a1 : S_api_Msg) (x40 : List Int) (x41 : Int) (a0 : S_lean_writer) (x1000000_1 : List UInt8) (x1000000_2 : List UInt8) (x1000000_3 : List UInt8) (x1000000_4 : List UInt8) (x6 : List UInt8) (x42 : Int) : Option ((Unit) × (S_lean_writer × Unit)) :=
  evAt Try.prog (tab es_lean_writer_update) ad_lean_writer_update n bd_lean_writer_update [.r, .r, .r, .l, .r, .l, .at m] fn_lean_writer_update (fun _ _ => none) fn_lean_writer_update
    [(0, .one (.ref 1000000 0)), (2, .one (.int .i64 a2)), (4, .box [.int .i64 a1.kind, .int .i64 a1.cmd, .int .i64 a1.ver, .str a1.auth, .int .i64 a1.family, .int .i64 a1.ae, .str a1.prefix_, .int .i64 a1.plen, .int .i64 a1.tag, .str a1.next, .int .i64 a1.metric, .str a1.id, .int .i64 a1.seq, .int .i64 a1.seq2, .int .i64 a1.interval, .int .i64 a1.flags, .int .i64 a1.hops, .int .i64 a1.nonce, .int .i64 a1.cost, .str a1.addr, .str a1.orig, .sl 73 a1.list .ro, .int .i64 a1.type_, .str a1.data, .sl 75 a1.subs .ro]), (6, .one (.bs 5 x6 .app)), (40, .one (.sl 3 x40 .app)), (41, .one (.int .i64 x41)), (42, .one (.int .i64 x42)), (1000000, .box [.bs 5 a0.b .app, .str x1000000_1, .str x1000000_2, .str x1000000_3, .str x1000000_4, .str a0.c_Next_c0, .str a0.c_Next_c1, .str a0.c_Id])]
def sg_lean_Put : Sig τ := ⟨[(false, T_api_Ctx), (false, T_api_Msg)], [T_string, T_api_Ctx, T_api_Errno]⟩
def ad_lean_Put : Adv := ⟨77, [[2, 3, 5], [2, 3, 5, 9], [4, 5, 6], [2, 3, 5, 14], [4, 5, 6], [2, 3, 5, 7], [2, 3, 5, 7, 26], [2, 3, 5, 7, 8], [2, 3, 5, 7, 8, 39], [4, 5, 6], [2, 3, 5, 7, 8, 45], [2, 3, 5, 7, 8], [3, 5, 7, 8, 56], [3, 5, 7], [5, 7], [4, 5, 6]], [], []⟩
noncomputable def es_lean_Put : List (Ent U) := [e_lean_Right, e_lean_other, e_ctx_Family, e_lean_writer_id, e_lean_writer_hop, e_lean_writer_omitted, e_lean_writer_update]
noncomputable def g_lean_Put : S_api_Ctx × S_api_Msg × Unit → Option (((List UInt8) × S_api_Ctx × Int × Unit) × Unit) := runFn (U := U) Try.prog es_lean_Put ad_lean_Put 0 Try.f31 sg_lean_Put
noncomputable def e_lean_Put : Ent U := ⟨31, sg_lean_Put, g_lean_Put⟩
def sg_octet_Put : Sig τ := ⟨[(false, T_int), (false, T_int)], [T_string, T_bool]⟩
def ad_octet_Put : Adv := ⟨29, [[0, 1], [0, 1, 11], [4, 5], [0, 1, 6], [0, 6, 7], [0, 6, 7, 17], [0, 6, 7], [0, 6, 7], [0, 6, 7], [4, 5]], [], []⟩
noncomputable def es_octet_Put : List (Ent U) := [e_octet_Fits]
noncomputable def h_octet_Put (n : Nat) : Int × Int × Unit → Option (((List UInt8) × Bool × Unit) × Unit) := runFn (U := U) Try.prog es_octet_Put ad_octet_Put n Try.f56 sg_octet_Put
noncomputable def g_octet_Put : Int × Int × Unit → Option (((List UInt8) × Bool × Unit) × Unit) := h_octet_Put fuel
noncomputable def e_octet_Put : Ent U := ⟨56, sg_octet_Put, g_octet_Put⟩
noncomputable def bd_octet_Put : Code := match Try.f56.body with | some c => c | none => .skip
noncomputable def fn_octet_Put : St U → Option (((List UInt8) × Bool × Unit) × Unit) := finOf (U := U) Try.prog Try.f56 0 sg_octet_Put
noncomputable def L_octet_Put_0 (n m : Nat) (x0 : Int) (x7 : Int) (x13 : List UInt8) : Option (((List UInt8) × Bool × Unit) × Unit) :=
  evAt Try.prog (tab es_octet_Put) ad_octet_Put n bd_octet_Put [.r, .r, .r, .l, .r, .l, .at m] fn_octet_Put (fun _ _ => none) fn_octet_Put
    [(0, .one (.int .i64 x0)), (6, .one (.sref 13)), (7, .one (.int .i64 x7)), (13, .bblk 5 x13 true)]
def sg_frame_Wrap : Sig τ := ⟨[(false, T_string)], [T_string, T_bool]⟩
def ad_frame_Wrap : Adv := ⟨23, [[0], [0, 4, 5], [0, 4, 18], [2, 3], [2, 3]], [], []⟩
noncomputable def es_frame_Wrap : List (Ent U) := [e_octet_Put]
noncomputable def g_frame_Wrap : (List UInt8) × Unit → Option (((List UInt8) × Bool × Unit) × Unit) := runFn (U := U) Try.prog es_frame_Wrap ad_frame_Wrap 0 Try.f32 sg_frame_Wrap
noncomputable def e_frame_Wrap : Ent U := ⟨32, sg_frame_Wrap, g_frame_Wrap⟩
def sg_outlet_Encode : Sig τ := ⟨[(false, T_list_api_Msg)], [T_string, T_int, T_api_Errno]⟩
def ad_outlet_Encode : Adv := ⟨62, [[0], [0, 16, 17, 18], [0, 16, 17, 18, 19], [0, 5, 6, 16, 17, 18], [0, 5, 16, 17, 18, 25], [2, 3, 4], [0, 16, 17, 18], [0, 7], [0, 7, 8], [7, 8, 28, 29, 30], [7, 8, 28, 29, 30, 31], [7, 8, 9, 10, 28, 29, 30], [7, 8, 9, 11, 12, 13, 28, 29, 30], [7, 8, 9, 11, 12, 13, 28, 29, 30, 43], [2, 3, 4], [7, 8, 9, 28, 29, 30], [7, 8, 9, 28, 29, 30, 52], [2, 3, 4], [7, 8, 28, 29, 30], [14], [2, 3, 4]], [46], []⟩
noncomputable def es_outlet_Encode : List (Ent U) := [e_lean_Right, e_lean_Put, e_frame_Wrap]
noncomputable def h_outlet_Encode (n : Nat) : (List S_api_Msg) × Unit → Option (((List UInt8) × Int × Int × Unit) × Unit) := runFn (U := U) Try.prog es_outlet_Encode ad_outlet_Encode n Try.f14 sg_outlet_Encode
noncomputable def g_outlet_Encode : (List S_api_Msg) × Unit → Option (((List UInt8) × Int × Int × Unit) × Unit) := h_outlet_Encode fuel
noncomputable def e_outlet_Encode : Ent U := ⟨14, sg_outlet_Encode, g_outlet_Encode⟩
noncomputable def bd_outlet_Encode : Code := match Try.f14.body with | some c => c | none => .skip
noncomputable def fn_outlet_Encode : St U → Option (((List UInt8) × Int × Int × Unit) × Unit) := finOf (U := U) Try.prog Try.f14 0 sg_outlet_Encode
noncomputable def L_outlet_Encode_0 (n m : Nat) (a0 : List S_api_Msg) (x18 : Int) : Option (((List UInt8) × Int × Int × Unit) × Unit) :=
  evAt Try.prog (tab es_outlet_Encode) ad_outlet_Encode n bd_outlet_Encode [.r, .l, .r, .l, .at m] fn_outlet_Encode (fun _ _ => none) fn_outlet_Encode
    [(0, .one (.sl 61 a0 .ro)), (16, .one (.sl 61 a0 .ro)), (17, .one (.int .i64 (a0.length : Int))), (18, .one (.int .i64 x18))]
noncomputable def L_outlet_Encode_1 (n m : Nat) (a0 : List S_api_Msg) (x7 : List UInt8) (x8_0 : List UInt8) (x8_1 : List UInt8) (x8_2 : List UInt8) (x8_3 : List UInt8) (x8_4 : List UInt8) (x8_5 : List UInt8) (x8_6 : List UInt8) (x30 : Int) : Option (((List UInt8) × Int × Int × Unit) × Unit) :=
  evAt Try.prog (tab es_outlet_Encode) ad_outlet_Encode n bd_outlet_Encode [.r, .r, .r, .r, .l, .r, .l, .at m] fn_outlet_Encode (fun _ _ => none) fn_outlet_Encode
    [(7, .one (.bs 5 x7 .app)), (8, .box [.str x8_0, .str x8_1, .str x8_2, .str x8_3, .str x8_4, .str x8_5, .str x8_6]), (28, .one (.sl 61 a0 .ro)), (29, .one (.int .i64 (a0.length : Int))), (30, .one (.int .i64 x30))]
def sg_lean_Plain : Sig τ := ⟨[(false, T_api_Msg)], [T_string, T_bool]⟩
def ad_lean_Plain : Adv := ⟨42, [[1], [1, 5], [2, 3], [1, 9], [2, 3], [1, 4], [1, 4, 19], [1, 4], [1, 4, 26], [1, 4], [4], [2, 3]], [], []⟩
noncomputable def es_lean_Plain : List (Ent U) := [e_lean_Right, e_lean_other, e_lean_writer_id, e_ctx_Family, e_lean_writer_hop, e_lean_writer_update]
noncomputable def g_lean_Plain : S_api_Msg × Unit → Option (((List UInt8) × Bool × Unit) × Unit) := runFn (U := U) Try.prog es_lean_Plain ad_lean_Plain 0 Try.f35 sg_lean_Plain
noncomputable def e_lean_Plain : Ent U := ⟨35, sg_lean_Plain, g_lean_Plain⟩
def sg_outlet_Plain : Sig τ := ⟨[(false, T_list_api_Msg)], [T_int]⟩
def ad_outlet_Plain : Adv := ⟨27, [[0], [0, 3], [3, 8, 9, 10], [3, 8, 9, 10, 11], [3, 5, 8, 9, 10], [3, 6, 7, 8, 9, 10], [3, 6, 8, 9, 10, 20], [2], [3, 8, 9, 10], [3, 8, 9, 10], [2]], [], []⟩
noncomputable def es_outlet_Plain : List (Ent U) := [e_lean_Plain]
noncomputable def h_outlet_Plain (n : Nat) : (List S_api_Msg) × Unit → Option ((Int × Unit) × Unit) := runFn (U := U) Try.prog es_outlet_Plain ad_outlet_Plain n Try.f16 sg_outlet_Plain
noncomputable def g_outlet_Plain : (List S_api_Msg) × Unit → Option ((Int × Unit) × Unit) := h_outlet_Plain fuel
noncomputable def e_outlet_Plain : Ent U := ⟨16, sg_outlet_Plain, g_outlet_Plain⟩
noncomputable def bd_outlet_Plain : Code := match Try.f16.body with | some c => c | none => .skip
noncomputable def fn_outlet_Plain : St U → Option ((Int × Unit) × Unit) := finOf (U := U) Try.prog Try.f16 0 sg_outlet_Plain
noncomputable def L_outlet_Plain_0 (n m : Nat) (a0 : List S_api_Msg) (x3 : Int) (x10 : Int) : Option ((Int × Unit) × Unit) :=
  evAt Try.prog (tab es_outlet_Plain) ad_outlet_Plain n bd_outlet_Plain [.r, .r, .l, .r, .l, .at m] fn_outlet_Plain (fun _ _ => none) fn_outlet_Plain
    [(3, .one (.int .i64 x3)), (8, .one (.sl 61 a0 .ro)), (9, .one (.int .i64 (a0.length : Int))), (10, .one (.int .i64 x10))]
def sg_law25_awake : Sig τ := ⟨[], [T_bool]⟩
def ad_law25_awake : Adv := ⟨41, [[], [1, 2, 3], [1, 2, 3, 4, 6], [0]], [], []⟩
noncomputable def es_law25_awake : List (Ent U) := [e_outlet_Encode, e_outlet_Plain]
noncomputable def g_law25_awake : Unit → Option ((Bool × Unit) × Unit) := runFn (U := U) Try.prog es_law25_awake ad_law25_awake 0 Try.f13 sg_law25_awake
noncomputable def e_law25_awake : Ent U := ⟨13, sg_law25_awake, g_law25_awake⟩
def sg_ref07_dests : Sig τ := ⟨[(false, T_list_api_Dest), (false, T_list_api_Dest)], [T_bool]⟩
def ad_ref07_dests : Adv := ⟨26, [[0, 1], [0, 1, 10], [4], [0, 1, 5], [0, 1, 5, 14], [0, 1, 5], [0, 1, 5, 25], [4], [4]], [], []⟩
noncomputable def es_ref07_dests : List (Ent U) := []
noncomputable def h_ref07_dests (n : Nat) : (List S_api_Dest) × (List S_api_Dest) × Unit → Option ((Bool × Unit) × Unit) := runFn (U := U) Try.prog es_ref07_dests ad_ref07_dests n Try.f69 sg_ref07_dests
noncomputable def g_ref07_dests : (List S_api_Dest) × (List S_api_Dest) × Unit → Option ((Bool × Unit) × Unit) := h_ref07_dests fuel
noncomputable def e_ref07_dests : Ent U := ⟨69, sg_ref07_dests, g_ref07_dests⟩
noncomputable def bd_ref07_dests : Code := match Try.f69.body with | some c => c | none => .skip
noncomputable def fn_ref07_dests : St U → Option ((Bool × Unit) × Unit) := finOf (U := U) Try.prog Try.f69 0 sg_ref07_dests
noncomputable def L_ref07_dests_0 (n m : Nat) (a0 : List S_api_Dest) (a1 : List S_api_Dest) (x5 : Int) : Option ((Bool × Unit) × Unit) :=
  evAt Try.prog (tab es_ref07_dests) ad_ref07_dests n bd_ref07_dests [.r, .r, .l, .r, .l, .at m] fn_ref07_dests (fun _ _ => none) fn_ref07_dests
    [(0, .one (.sl 73 a0 .ro)), (1, .one (.sl 73 a1 .ro)), (5, .one (.int .i64 x5))]
def sg_ref07_subs : Sig τ := ⟨[(false, T_list_api_Sub), (false, T_list_api_Sub)], [T_bool]⟩
def ad_ref07_subs : Adv := ⟨26, [[0, 1], [0, 1, 10], [4], [0, 1, 5], [0, 1, 5, 14], [0, 1, 5], [0, 1, 5, 25], [4], [4]], [], []⟩
noncomputable def es_ref07_subs : List (Ent U) := []
noncomputable def h_ref07_subs (n : Nat) : (List S_api_Sub) × (List S_api_Sub) × Unit → Option ((Bool × Unit) × Unit) := runFn (U := U) Try.prog es_ref07_subs ad_ref07_subs n Try.f70 sg_ref07_subs
noncomputable def g_ref07_subs : (List S_api_Sub) × (List S_api_Sub) × Unit → Option ((Bool × Unit) × Unit) := h_ref07_subs fuel
noncomputable def e_ref07_subs : Ent U := ⟨70, sg_ref07_subs, g_ref07_subs⟩
noncomputable def bd_ref07_subs : Code := match Try.f70.body with | some c => c | none => .skip
noncomputable def fn_ref07_subs : St U → Option ((Bool × Unit) × Unit) := finOf (U := U) Try.prog Try.f70 0 sg_ref07_subs
noncomputable def L_ref07_subs_0 (n m : Nat) (a0 : List S_api_Sub) (a1 : List S_api_Sub) (x5 : Int) : Option ((Bool × Unit) × Unit) :=
  evAt Try.prog (tab es_ref07_subs) ad_ref07_subs n bd_ref07_subs [.r, .r, .l, .r, .l, .at m] fn_ref07_subs (fun _ _ => none) fn_ref07_subs
    [(0, .one (.sl 75 a0 .ro)), (1, .one (.sl 75 a1 .ro)), (5, .one (.int .i64 x5))]
def sg_ref07_Same : Sig τ := ⟨[(false, T_api_Msg), (false, T_api_Msg)], [T_bool]⟩
def ad_ref07_Same : Adv := ⟨174, [[2, 3], [2, 3, 79], [4], [2, 3, 161], [4], [4]], [], []⟩
noncomputable def es_ref07_Same : List (Ent U) := [e_ref07_dests, e_ref07_subs]
noncomputable def g_ref07_Same : S_api_Msg × S_api_Msg × Unit → Option ((Bool × Unit) × Unit) := runFn (U := U) Try.prog es_ref07_Same ad_ref07_Same 0 Try.f38 sg_ref07_Same
noncomputable def e_ref07_Same : Ent U := ⟨38, sg_ref07_Same, g_ref07_Same⟩
def sg_ref07_Bare : Sig τ := ⟨[(false, T_api_Msg)], [T_bool]⟩
def ad_ref07_Bare : Adv := ⟨214, [[1], [1, 3], [1, 3, 10], [2], [1, 3, 10, 11], [1, 3], [1, 3, 10, 34], [1, 3], [1, 3, 10, 51], [1, 3], [1, 3, 10, 74], [1, 3], [1, 3, 10, 97], [1, 3], [1, 3, 10, 105], [1, 3, 10, 107], [1, 3], [1, 3, 10, 115], [1, 3], [1, 3, 10, 120], [1, 3], [1, 3, 10, 131], [1, 3], [1, 3, 10, 145], [1, 3], [1, 3, 10, 171], [1, 3], [1, 3, 10, 182], [1, 3], [1, 3, 202], [1, 3], [2]], [], []⟩
noncomputable def es_ref07_Bare : List (Ent U) := [e_ref07_Same]
noncomputable def g_ref07_Bare : S_api_Msg × Unit → Option ((Bool × Unit) × Unit) := runFn (U := U) Try.prog es_ref07_Bare ad_ref07_Bare 0 Try.f99 sg_ref07_Bare
noncomputable def e_ref07_Bare : Ent U := ⟨99, sg_ref07_Bare, g_ref07_Bare⟩
def sg_ref07_Subs : Sig τ := ⟨[(false, T_list_api_Sub), (false, T_int), (false, T_int)], [T_bool]⟩
def ad_ref07_Subs : Adv := ⟨39, [[0, 1, 2], [0, 1, 2, 7], [0, 1, 2, 7, 11], [0, 1, 2, 7], [0, 1, 2, 7, 38], [6], [6]], [], []⟩
noncomputable def es_ref07_Subs : List (Ent U) := []
noncomputable def h_ref07_Subs (n : Nat) : (List S_api_Sub) × Int × Int × Unit → Option ((Bool × Unit) × Unit) := runFn (U := U) Try.prog es_ref07_Subs ad_ref07_Subs n Try.f142 sg_ref07_Subs
noncomputable def g_ref07_Subs : (List S_api_Sub) × Int × Int × Unit → Option ((Bool × Unit) × Unit) := h_ref07_Subs fuel
noncomputable def e_ref07_Subs : Ent U := ⟨142, sg_ref07_Subs, g_ref07_Subs⟩
noncomputable def bd_ref07_Subs : Code := match Try.f142.body with | some c => c | none => .skip
noncomputable def fn_ref07_Subs : St U → Option ((Bool × Unit) × Unit) := finOf (U := U) Try.prog Try.f142 0 sg_ref07_Subs
noncomputable def L_ref07_Subs_0 (n m : Nat) (a0 : List S_api_Sub) (a1 : Int) (a2 : Int) (x7 : Int) : Option ((Bool × Unit) × Unit) :=
  evAt Try.prog (tab es_ref07_Subs) ad_ref07_Subs n bd_ref07_Subs [.r, .l, .r, .l, .at m] fn_ref07_Subs (fun _ _ => none) fn_ref07_Subs
    [(0, .one (.sl 75 a0 .ro)), (1, .one (.int .i64 a1)), (2, .one (.int .i64 a2)), (7, .one (.int .i64 x7))]
def sg_ref07_Bytes : Sig τ := ⟨[(false, T_list_api_Sub)], [T_int]⟩
def ad_ref07_Bytes : Adv := ⟨21, [[0], [0, 3], [0, 3, 4], [0, 3, 4, 8], [0, 3, 4], [0, 3, 4], [2]], [], []⟩
noncomputable def es_ref07_Bytes : List (Ent U) := []
noncomputable def h_ref07_Bytes (n : Nat) : (List S_api_Sub) × Unit → Option ((Int × Unit) × Unit) := runFn (U := U) Try.prog es_ref07_Bytes ad_ref07_Bytes n Try.f143 sg_ref07_Bytes
noncomputable def g_ref07_Bytes : (List S_api_Sub) × Unit → Option ((Int × Unit) × Unit) := h_ref07_Bytes fuel
noncomputable def e_ref07_Bytes : Ent U := ⟨143, sg_ref07_Bytes, g_ref07_Bytes⟩
noncomputable def bd_ref07_Bytes : Code := match Try.f143.body with | some c => c | none => .skip
noncomputable def fn_ref07_Bytes : St U → Option ((Int × Unit) × Unit) := finOf (U := U) Try.prog Try.f143 0 sg_ref07_Bytes
noncomputable def L_ref07_Bytes_0 (n m : Nat) (a0 : List S_api_Sub) (x3 : Int) (x4 : Int) : Option ((Int × Unit) × Unit) :=
  evAt Try.prog (tab es_ref07_Bytes) ad_ref07_Bytes n bd_ref07_Bytes [.r, .r, .l, .r, .l, .at m] fn_ref07_Bytes (fun _ _ => none) fn_ref07_Bytes
    [(0, .one (.sl 75 a0 .ro)), (3, .one (.int .i64 x3)), (4, .one (.int .i64 x4))]
def sg_ref19_Right : Sig τ := ⟨[(false, T_list_api_Sub)], [T_bool]⟩
def ad_ref19_Right : Adv := ⟨10, [[0], [2]], [], []⟩
noncomputable def es_ref19_Right : List (Ent U) := [e_ref07_Subs, e_ref07_Bytes]
noncomputable def g_ref19_Right : (List S_api_Sub) × Unit → Option ((Bool × Unit) × Unit) := runFn (U := U) Try.prog es_ref19_Right ad_ref19_Right 0 Try.f100 sg_ref19_Right
noncomputable def e_ref19_Right : Ent U := ⟨100, sg_ref19_Right, g_ref19_Right⟩
def sg_ref02_Fits : Sig τ := ⟨[(false, T_int), (false, T_int)], [T_bool]⟩
def ad_ref02_Fits : Adv := ⟨27, [[0, 1], [0, 1, 16], [4], [0, 1, 5], [0, 1, 5, 6], [0, 1, 5, 6, 19], [0, 1, 5, 6], [0, 1, 5, 6], [4]], [], []⟩
noncomputable def es_ref02_Fits : List (Ent U) := []
noncomputable def h_ref02_Fits (n : Nat) : Int × Int × Unit → Option ((Bool × Unit) × Unit) := runFn (U := U) Try.prog es_ref02_Fits ad_ref02_Fits n Try.f104 sg_ref02_Fits
noncomputable def g_ref02_Fits : Int × Int × Unit → Option ((Bool × Unit) × Unit) := h_ref02_Fits fuel
noncomputable def e_ref02_Fits : Ent U := ⟨104, sg_ref02_Fits, g_ref02_Fits⟩
noncomputable def bd_ref02_Fits : Code := match Try.f104.body with | some c => c | none => .skip
noncomputable def fn_ref02_Fits : St U → Option ((Bool × Unit) × Unit) := finOf (U := U) Try.prog Try.f104 0 sg_ref02_Fits
noncomputable def L_ref02_Fits_0 (n m : Nat) (a0 : Int) (a1 : Int) (x5 : Int) (x6 : Int) : Option ((Bool × Unit) × Unit) :=
  evAt Try.prog (tab es_ref02_Fits) ad_ref02_Fits n bd_ref02_Fits [.r, .r, .r, .l, .r, .l, .at m] fn_ref02_Fits (fun _ _ => none) fn_ref02_Fits
    [(0, .one (.int .i64 a0)), (1, .one (.int .i64 a1)), (5, .one (.int .i64 x5)), (6, .one (.int .i64 x6))]
def sg_ref20_two : Sig τ := ⟨[(false, T_int)], [T_bool]⟩
def ad_ref20_two : Adv := ⟨5, [[0], [2]], [], []⟩
noncomputable def es_ref20_two : List (Ent U) := [e_ref02_Fits]
noncomputable def g_ref20_two : Int × Unit → Option ((Bool × Unit) × Unit) := runFn (U := U) Try.prog es_ref20_two ad_ref20_two 0 Try.f101 sg_ref20_two
noncomputable def e_ref20_two : Ent U := ⟨101, sg_ref20_two, g_ref20_two⟩
def sg_ref06_link : Sig τ := ⟨[], [T_string]⟩
def ad_ref06_link : Adv := ⟨1, [[], [0]], [], []⟩
noncomputable def es_ref06_link : List (Ent U) := []
noncomputable def g_ref06_link : Unit → Option (((List UInt8) × Unit) × Unit) := runFn (U := U) Try.prog es_ref06_link ad_ref06_link 0 Try.f81 sg_ref06_link
noncomputable def e_ref06_link : Ent U := ⟨81, sg_ref06_link, g_ref06_link⟩
def sg_ref06_Link : Sig τ := ⟨[(false, T_string)], [T_bool]⟩
def ad_ref06_Link : Adv := ⟨12, [[0], [2]], [], []⟩
noncomputable def es_ref06_Link : List (Ent U) := [e_ref06_link]
noncomputable def g_ref06_Link : (List UInt8) × Unit → Option ((Bool × Unit) × Unit) := runFn (U := U) Try.prog es_ref06_Link ad_ref06_Link 0 Try.f44 sg_ref06_Link
noncomputable def e_ref06_Link : Ent U := ⟨44, sg_ref06_Link, g_ref06_Link⟩
def sg_ref20_addr : Sig τ := ⟨[(false, T_int), (false, T_string)], [T_bool]⟩
def ad_ref20_addr : Adv := ⟨24, [[0, 1], [1, 5], [1, 5, 6], [4], [1, 5, 10], [4], [1, 5, 15], [4], [1, 20], [4], [4]], [], []⟩
noncomputable def es_ref20_addr : List (Ent U) := [e_ref06_Link]
noncomputable def g_ref20_addr : Int × (List UInt8) × Unit → Option ((Bool × Unit) × Unit) := runFn (U := U) Try.prog es_ref20_addr ad_ref20_addr 0 Try.f102 sg_ref20_addr
noncomputable def e_ref20_addr : Ent U := ⟨102, sg_ref20_addr, g_ref20_addr⟩
def sg_ref20_Right : Sig τ := ⟨[(false, T_api_Msg)], [T_bool]⟩
def ad_ref20_Right : Adv := ⟨58, [[1], [1, 35], [2], [1, 37], [1, 37, 38], [1, 37, 38], [2], [1, 37, 41], [2], [1, 51], [2], [2]], [], []⟩
noncomputable def es_ref20_Right : List (Ent U) := [e_ref07_Bare, e_ref19_Right, e_ref20_two, e_ref20_addr]
noncomputable def g_ref20_Right : S_api_Msg × Unit → Option ((Bool × Unit) × Unit) := runFn (U := U) Try.prog es_ref20_Right ad_ref20_Right 0 Try.f57 sg_ref20_Right
noncomputable def e_ref20_Right : Ent U := ⟨57, sg_ref20_Right, g_ref20_Right⟩
def sg_ref03_Bit : Sig τ := ⟨[(false, T_string), (false, T_int)], [T_bool]⟩
def ad_ref03_Bit : Adv := ⟨28, [[0, 1], [4]], [], []⟩
noncomputable def es_ref03_Bit : List (Ent U) := []
noncomputable def g_ref03_Bit : (List UInt8) × Int × Unit → Option ((Bool × Unit) × Unit) := runFn (U := U) Try.prog es_ref03_Bit ad_ref03_Bit 0 Try.f164 sg_ref03_Bit
noncomputable def e_ref03_Bit : Ent U := ⟨164, sg_ref03_Bit, g_ref03_Bit⟩
def sg_ref03_Keep : Sig τ := ⟨[(false, T_string), (false, T_int)], [T_string]⟩
def ad_ref03_Keep : Adv := ⟨42, [[0, 1], [0, 1, 5], [0, 1, 5, 6], [0, 1, 5, 6, 19], [0, 1, 5, 6], [0, 1, 5, 6, 24], [0, 1, 5, 6], [4]], [], []⟩
noncomputable def es_ref03_Keep : List (Ent U) := [e_ref03_Bit]
noncomputable def h_ref03_Keep (n : Nat) : (List UInt8) × Int × Unit → Option (((List UInt8) × Unit) × Unit) := runFn (U := U) Try.prog es_ref03_Keep ad_ref03_Keep n Try.f146 sg_ref03_Keep
noncomputable def g_ref03_Keep : (List UInt8) × Int × Unit → Option (((List UInt8) × Unit) × Unit) := h_ref03_Keep fuel
noncomputable def e_ref03_Keep : Ent U := ⟨146, sg_ref03_Keep, g_ref03_Keep⟩
noncomputable def bd_ref03_Keep : Code := match Try.f146.body with | some c => c | none => .skip
noncomputable def fn_ref03_Keep : St U → Option (((List UInt8) × Unit) × Unit) := finOf (U := U) Try.prog Try.f146 0 sg_ref03_Keep
noncomputable def L_ref03_Keep_0 (n m : Nat) (a0 : List UInt8) (a1 : Int) (x6 : Int) (x9 : List UInt8) : Option (((List UInt8) × Unit) × Unit) :=
  evAt Try.prog (tab es_ref03_Keep) ad_ref03_Keep n bd_ref03_Keep [.r, .r, .l, .r, .l, .at m] fn_ref03_Keep (fun _ _ => none) fn_ref03_Keep
    [(0, .one (.str a0)), (1, .one (.int .i64 a1)), (5, .one (.sref 9)), (6, .one (.int .i64 x6)), (9, .bblk 5 x9 true)]
def sg_ref03_Clean : Sig τ := ⟨[(false, T_string), (false, T_int)], [T_bool]⟩
def ad_ref03_Clean : Adv := ⟨10, [[0, 1], [4]], [], []⟩
noncomputable def es_ref03_Clean : List (Ent U) := [e_ref03_Keep]
noncomputable def g_ref03_Clean : (List UInt8) × Int × Unit → Option ((Bool × Unit) × Unit) := runFn (U := U) Try.prog es_ref03_Clean ad_ref03_Clean 0 Try.f162 sg_ref03_Clean
noncomputable def e_ref03_Clean : Ent U := ⟨162, sg_ref03_Clean, g_ref03_Clean⟩
def sg_ref04_Right : Sig τ := ⟨[(false, T_string), (false, T_int)], [T_bool]⟩
def ad_ref04_Right : Adv := ⟨29, [[0, 1], [4]], [], []⟩
noncomputable def es_ref04_Right : List (Ent U) := [e_ref03_Clean]
noncomputable def g_ref04_Right : (List UInt8) × Int × Unit → Option ((Bool × Unit) × Unit) := runFn (U := U) Try.prog es_ref04_Right ad_ref04_Right 0 Try.f144 sg_ref04_Right
noncomputable def e_ref04_Right : Ent U := ⟨144, sg_ref04_Right, g_ref04_Right⟩
def sg_ref21_In : Sig τ := ⟨[(false, T_int), (false, T_string), (false, T_int)], [T_bool]⟩
def ad_ref21_In : Adv := ⟨49, [[0, 1, 2], [1, 2, 7], [1, 2, 7, 8], [6], [1, 2, 7, 16], [6], [1, 2, 7, 26], [6], [1, 2, 36], [6], [6]], [], []⟩
noncomputable def es_ref21_In : List (Ent U) := [e_ref04_Right, e_ref06_Link]
noncomputable def g_ref21_In : Int × (List UInt8) × Int × Unit → Option ((Bool × Unit) × Unit) := runFn (U := U) Try.prog es_ref21_In ad_ref21_In 0 Try.f103 sg_ref21_In
noncomputable def e_ref21_In : Ent U := ⟨103, sg_ref21_In, g_ref21_In⟩
def sg_ref21_Right : Sig τ := ⟨[(false, T_api_Msg)], [T_bool]⟩
def ad_ref21_Right : Adv := ⟨54, [[1], [1, 21], [2], [1, 24], [2], [2]], [], []⟩
noncomputable def es_ref21_Right : List (Ent U) := [e_ref07_Bare, e_ref19_Right, e_ref21_In, e_ref02_Fits]
noncomputable def g_ref21_Right : S_api_Msg × Unit → Option ((Bool × Unit) × Unit) := runFn (U := U) Try.prog es_ref21_Right ad_ref21_Right 0 Try.f58 sg_ref21_Right
noncomputable def e_ref21_Right : Ent U := ⟨58, sg_ref21_Right, g_ref21_Right⟩
def sg_ref22_two : Sig τ := ⟨[(false, T_int)], [T_bool]⟩
def ad_ref22_two : Adv := ⟨5, [[0], [2]], [], []⟩
noncomputable def es_ref22_two : List (Ent U) := [e_ref02_Fits]
noncomputable def g_ref22_two : Int × Unit → Option ((Bool × Unit) × Unit) := runFn (U := U) Try.prog es_ref22_two ad_ref22_two 0 Try.f105 sg_ref22_two
noncomputable def e_ref22_two : Ent U := ⟨105, sg_ref22_two, g_ref22_two⟩
def sg_ref06_Family : Sig τ := ⟨[(false, T_string)], [T_int]⟩
def ad_ref06_Family : Adv := ⟨9, [[0], [0, 5], [2], [8], [2], [2]], [], []⟩
noncomputable def es_ref06_Family : List (Ent U) := []
noncomputable def g_ref06_Family : (List UInt8) × Unit → Option ((Int × Unit) × Unit) := runFn (U := U) Try.prog es_ref06_Family ad_ref06_Family 0 Try.f106 sg_ref06_Family
noncomputable def e_ref06_Family : Ent U := ⟨106, sg_ref06_Family, g_ref06_Family⟩
def sg_ref22_Family : Sig τ := ⟨[(false, T_int)], [T_int]⟩
def ad_ref22_Family : Adv := ⟨11, [[0], [0, 4], [2], [10], [2], [2]], [], []⟩
noncomputable def es_ref22_Family : List (Ent U) := []
noncomputable def g_ref22_Family : Int × Unit → Option ((Int × Unit) × Unit) := runFn (U := U) Try.prog es_ref22_Family ad_ref22_Family 0 Try.f62 sg_ref22_Family
noncomputable def e_ref22_Family : Ent U := ⟨62, sg_ref22_Family, g_ref22_Family⟩
def sg_ref22_Right : Sig τ := ⟨[(false, T_api_Msg)], [T_bool]⟩
def ad_ref22_Right : Adv := ⟨79, [[1], [1, 44], [2], [1, 47], [2], [2]], [], []⟩
noncomputable def es_ref22_Right : List (Ent U) := [e_ref07_Bare, e_ref19_Right, e_ref21_In, e_ref22_two, e_ref06_Family, e_ref22_Family]
noncomputable def g_ref22_Right : S_api_Msg × Unit → Option ((Bool × Unit) × Unit) := runFn (U := U) Try.prog es_ref22_Right ad_ref22_Right 0 Try.f59 sg_ref22_Right
noncomputable def e_ref22_Right : Ent U := ⟨59, sg_ref22_Right, g_ref22_Right⟩
def sg_ref24_opaque : Sig τ := ⟨[(false, T_api_Msg)], [T_bool]⟩
def ad_ref24_opaque : Adv := ⟨26, [[1], [2]], [], []⟩
noncomputable def es_ref24_opaque : List (Ent U) := [e_ref07_Bare]
noncomputable def g_ref24_opaque : S_api_Msg × Unit → Option ((Bool × Unit) × Unit) := runFn (U := U) Try.prog es_ref24_opaque ad_ref24_opaque 0 Try.f60 sg_ref24_opaque
noncomputable def e_ref24_opaque : Ent U := ⟨60, sg_ref24_opaque, g_ref24_opaque⟩
def sg_ref24_Right : Sig τ := ⟨[(false, T_api_Msg)], [T_bool]⟩
def ad_ref24_Right : Adv := ⟨17, [[1], [2]], [], []⟩
noncomputable def es_ref24_Right : List (Ent U) := [e_ref20_Right, e_ref21_Right, e_ref22_Right, e_ref24_opaque]
noncomputable def g_ref24_Right : S_api_Msg × Unit → Option ((Bool × Unit) × Unit) := runFn (U := U) Try.prog es_ref24_Right ad_ref24_Right 0 Try.f33 sg_ref24_Right
noncomputable def e_ref24_Right : Ent U := ⟨33, sg_ref24_Right, g_ref24_Right⟩
def sg_ref02_Put : Sig τ := ⟨[(false, T_int), (false, T_int)], [T_string, T_bool]⟩
def ad_ref02_Put : Adv := ⟨27, [[0, 1], [0, 1, 11], [4, 5], [0, 1, 6], [0, 1, 6, 7], [0, 1, 6, 7, 14], [0, 1, 6, 7], [0, 1, 6, 7], [0, 1, 6, 7], [4, 5]], [], []⟩
noncomputable def es_ref02_Put : List (Ent U) := [e_ref02_Fits]
noncomputable def h_ref02_Put (n : Nat) : Int × Int × Unit → Option (((List UInt8) × Bool × Unit) × Unit) := runFn (U := U) Try.prog es_ref02_Put ad_ref02_Put n Try.f82 sg_ref02_Put
noncomputable def g_ref02_Put : Int × Int × Unit → Option (((List UInt8) × Bool × Unit) × Unit) := h_ref02_Put fuel
noncomputable def e_ref02_Put : Ent U := ⟨82, sg_ref02_Put, g_ref02_Put⟩
noncomputable def bd_ref02_Put : Code := match Try.f82.body with | some c => c | none => .skip
noncomputable def fn_ref02_Put : St U → Option (((List UInt8) × Bool × Unit) × Unit) := finOf (U := U) Try.prog Try.f82 0 sg_ref02_Put
noncomputable def L_ref02_Put_0 (n m : Nat) (a1 : Int) (x0 : Int) (x6 : List UInt8) (x7 : Int) : Option (((List UInt8) × Bool × Unit) × Unit) :=
  evAt Try.prog (tab es_ref02_Put) ad_ref02_Put n bd_ref02_Put [.r, .r, .r, .l, .r, .l, .at m] fn_ref02_Put (fun _ _ => none) fn_ref02_Put
    [(0, .one (.int .i64 x0)), (1, .one (.int .i64 a1)), (6, .one (.str x6)), (7, .one (.int .i64 x7))]
def sg_ref02_Of : Sig τ := ⟨[(false, T_int), (false, T_int)], [T_string]⟩
def ad_ref02_Of : Adv := ⟨14, [[0, 1], [5], [4]], [], []⟩
noncomputable def es_ref02_Of : List (Ent U) := [e_ref02_Put]
noncomputable def g_ref02_Of : Int × Int × Unit → Option (((List UInt8) × Unit) × Unit) := runFn (U := U) Try.prog es_ref02_Of ad_ref02_Of 0 Try.f45 sg_ref02_Of
noncomputable def e_ref02_Of : Ent U := ⟨45, sg_ref02_Of, g_ref02_Of⟩
def sg_ref06_Short : Sig τ := ⟨[(false, T_string)], [T_string, T_bool]⟩
def ad_ref06_Short : Adv := ⟨9, [[0], [0, 6], [2, 3], [2, 3]], [], []⟩
noncomputable def es_ref06_Short : List (Ent U) := [e_ref06_Link]
noncomputable def g_ref06_Short : (List UInt8) × Unit → Option (((List UInt8) × Bool × Unit) × Unit) := runFn (U := U) Try.prog es_ref06_Short ad_ref06_Short 0 Try.f163 sg_ref06_Short
noncomputable def e_ref06_Short : Ent U := ⟨163, sg_ref06_Short, g_ref06_Short⟩
def sg_ref20_fields : Sig τ := ⟨[(false, T_api_Msg)], [T_int, T_string]⟩
def ad_ref20_fields : Adv := ⟨59, [[1], [1, 4], [1, 4, 10], [1, 4, 10, 11], [2, 3], [1, 4, 10, 19], [2, 3], [1, 4, 24], [2, 3], [1, 4, 5], [1, 4, 5, 40], [1, 4, 5], [2, 3]], [], []⟩
noncomputable def es_ref20_fields : List (Ent U) := [e_ref02_Of, e_ref06_Short]
noncomputable def g_ref20_fields : S_api_Msg × Unit → Option ((Int × (List UInt8) × Unit) × Unit) := runFn (U := U) Try.prog es_ref20_fields ad_ref20_fields 0 Try.f145 sg_ref20_fields
noncomputable def e_ref20_fields : Ent U := ⟨145, sg_ref20_fields, g_ref20_fields⟩
def sg_ref18_Put : Sig τ := ⟨[(false, T_int), (false, T_string)], [T_string, T_bool]⟩
def ad_ref18_Put : Adv := ⟨26, [[0, 1], [0, 1, 16], [4, 5], [4, 5]], [], []⟩
noncomputable def es_ref18_Put : List (Ent U) := []
noncomputable def g_ref18_Put : Int × (List UInt8) × Unit → Option (((List UInt8) × Bool × Unit) × Unit) := runFn (U := U) Try.prog es_ref18_Put ad_ref18_Put 0 Try.f27 sg_ref18_Put
noncomputable def e_ref18_Put : Ent U := ⟨27, sg_ref18_Put, g_ref18_Put⟩
def sg_ref19_Put : Sig τ := ⟨[(false, T_list_api_Sub)], [T_string, T_bool]⟩
def ad_ref19_Put : Adv := ⟨35, [[0], [0, 10], [2, 3], [0, 4], [0, 4, 5], [0, 4, 5, 14], [0, 4, 5], [0, 4, 5, 6], [0, 4, 5], [2, 3]], [], []⟩
noncomputable def es_ref19_Put : List (Ent U) := [e_ref19_Right, e_ref18_Put]
noncomputable def h_ref19_Put (n : Nat) : (List S_api_Sub) × Unit → Option (((List UInt8) × Bool × Unit) × Unit) := runFn (U := U) Try.prog es_ref19_Put ad_ref19_Put n Try.f110 sg_ref19_Put
noncomputable def g_ref19_Put : (List S_api_Sub) × Unit → Option (((List UInt8) × Bool × Unit) × Unit) := h_ref19_Put fuel
noncomputable def e_ref19_Put : Ent U := ⟨110, sg_ref19_Put, g_ref19_Put⟩
noncomputable def bd_ref19_Put : Code := match Try.f110.body with | some c => c | none => .skip
noncomputable def fn_ref19_Put : St U → Option (((List UInt8) × Bool × Unit) × Unit) := finOf (U := U) Try.prog Try.f110 0 sg_ref19_Put
noncomputable def L_ref19_Put_0 (n m : Nat) (a0 : List S_api_Sub) (x4 : List UInt8) (x5 : Int) : Option (((List UInt8) × Bool × Unit) × Unit) :=
  evAt Try.prog (tab es_ref19_Put) ad_ref19_Put n bd_ref19_Put [.r, .r, .r, .l, .r, .l, .at m] fn_ref19_Put (fun _ _ => none) fn_ref19_Put
    [(0, .one (.sl 75 a0 .ro)), (4, .one (.str x4)), (5, .one (.int .i64 x5))]
def sg_ref20_Put : Sig τ := ⟨[(false, T_api_Msg)], [T_string, T_bool]⟩
def ad_ref20_Put : Adv := ⟨29, [[1], [1, 10], [2, 3], [1, 4, 5], [4, 5, 6], [2, 3]], [], []⟩
noncomputable def es_ref20_Put : List (Ent U) := [e_ref20_Right, e_ref20_fields, e_ref19_Put, e_ref18_Put]
noncomputable def g_ref20_Put : S_api_Msg × Unit → Option (((List UInt8) × Bool × Unit) × Unit) := runFn (U := U) Try.prog es_ref20_Put ad_ref20_Put 0 Try.f107 sg_ref20_Put
noncomputable def e_ref20_Put : Ent U := ⟨107, sg_ref20_Put, g_ref20_Put⟩
def sg_ref04_Least : Sig τ := ⟨[(false, T_int)], [T_int]⟩
def ad_ref04_Least : Adv := ⟨8, [[0], [0, 4], [2], [2]], [], []⟩
noncomputable def es_ref04_Least : List (Ent U) := []
noncomputable def g_ref04_Least : Int × Unit → Option ((Int × Unit) × Unit) := runFn (U := U) Try.prog es_ref04_Least ad_ref04_Least 0 Try.f132 sg_ref04_Least
noncomputable def e_ref04_Least : Ent U := ⟨132, sg_ref04_Least, g_ref04_Least⟩
def sg_ref04_Cut : Sig τ := ⟨[(false, T_string), (false, T_int)], [T_string]⟩
def ad_ref04_Cut : Adv := ⟨14, [[0, 1], [4]], [], []⟩
noncomputable def es_ref04_Cut : List (Ent U) := [e_ref03_Keep, e_ref04_Least]
noncomputable def g_ref04_Cut : (List UInt8) × Int × Unit → Option (((List UInt8) × Unit) × Unit) := runFn (U := U) Try.prog es_ref04_Cut ad_ref04_Cut 0 Try.f109 sg_ref04_Cut
noncomputable def e_ref04_Cut : Ent U := ⟨109, sg_ref04_Cut, g_ref04_Cut⟩
def sg_ref21_Base : Sig τ := ⟨[(false, T_int)], [T_int]⟩
def ad_ref21_Base : Adv := ⟨5, [[0], [4], [2], [2]], [], []⟩
noncomputable def es_ref21_Base : List (Ent U) := []
noncomputable def g_ref21_Base : Int × Unit → Option ((Int × Unit) × Unit) := runFn (U := U) Try.prog es_ref21_Base ad_ref21_Base 0 Try.f66 sg_ref21_Base
noncomputable def e_ref21_Base : Ent U := ⟨66, sg_ref21_Base, g_ref21_Base⟩
def sg_ref21_Bytes : Sig τ := ⟨[(false, T_api_Msg)], [T_string]⟩
def ad_ref21_Bytes : Adv := ⟨12, [[1], [2]], [], []⟩
noncomputable def es_ref21_Bytes : List (Ent U) := [e_ref04_Cut, e_ref21_Base]
noncomputable def g_ref21_Bytes : S_api_Msg × Unit → Option (((List UInt8) × Unit) × Unit) := runFn (U := U) Try.prog es_ref21_Bytes ad_ref21_Bytes 0 Try.f67 sg_ref21_Bytes
noncomputable def e_ref21_Bytes : Ent U := ⟨67, sg_ref21_Bytes, g_ref21_Bytes⟩
def sg_ref21_Put : Sig τ := ⟨[(false, T_api_Msg)], [T_string, T_bool]⟩
def ad_ref21_Put : Adv := ⟨58, [[1], [1, 9], [2, 3], [1, 4], [1, 4, 6], [1, 4, 6, 26], [2, 3], [2, 3]], [], []⟩
noncomputable def es_ref21_Put : List (Ent U) := [e_ref21_Right, e_ref19_Put, e_ref21_Bytes, e_ref18_Put, e_ref02_Of]
noncomputable def g_ref21_Put : S_api_Msg × Unit → Option (((List UInt8) × Bool × Unit) × Unit) := runFn (U := U) Try.prog es_ref21_Put ad_ref21_Put 0 Try.f108 sg_ref21_Put
noncomputable def e_ref21_Put : Ent U := ⟨108, sg_ref21_Put, g_ref21_Put⟩
def sg_ref24_other : Sig τ := ⟨[(false, T_api_Msg)], [T_string]⟩
def ad_ref24_other : Adv := ⟨28, [[1], [1, 3, 4], [1, 3, 4, 11], [1, 3, 4], [1, 3, 18], [3], [2]], [], []⟩
noncomputable def es_ref24_other : List (Ent U) := [e_ref20_Put, e_ref21_Put, e_ref18_Put]
noncomputable def g_ref24_other : S_api_Msg × Unit → Option (((List UInt8) × Unit) × Unit) := runFn (U := U) Try.prog es_ref24_other ad_ref24_other 0 Try.f61 sg_ref24_other
noncomputable def e_ref24_other : Ent U := ⟨61, sg_ref24_other, g_ref24_other⟩
def sg_ref24_id : Sig τ := ⟨[(false, T_string)], [T_string]⟩
def ad_ref24_id : Adv := ⟨12, [[0], [3], [2]], [], []⟩
noncomputable def es_ref24_id : List (Ent U) := [e_ref18_Put]
noncomputable def g_ref24_id : (List UInt8) × Unit → Option (((List UInt8) × Unit) × Unit) := runFn (U := U) Try.prog es_ref24_id ad_ref24_id 0 Try.f63 sg_ref24_id
noncomputable def e_ref24_id : Ent U := ⟨63, sg_ref24_id, g_ref24_id⟩
def sg_ref24_hop : Sig τ := ⟨[(false, T_string)], [T_string]⟩
def ad_ref24_hop : Adv := ⟨24, [[0], [0, 3], [0, 3, 10], [0, 3], [0, 3, 14], [3], [4], [2]], [], []⟩
noncomputable def es_ref24_hop : List (Ent U) := [e_ref06_Link, e_ref18_Put]
noncomputable def g_ref24_hop : (List UInt8) × Unit → Option (((List UInt8) × Unit) × Unit) := runFn (U := U) Try.prog es_ref24_hop ad_ref24_hop 0 Try.f64 sg_ref24_hop
noncomputable def e_ref24_hop : Ent U := ⟨64, sg_ref24_hop, g_ref24_hop⟩
def sg_ref04_Lead : Sig τ := ⟨[(false, T_string), (false, T_string)], [T_int]⟩
def ad_ref04_Lead : Adv := ⟨28, [[0, 1], [0, 1, 5], [0, 1, 5, 24], [0, 1, 5], [4]], [], []⟩
noncomputable def es_ref04_Lead : List (Ent U) := []
noncomputable def h_ref04_Lead (n : Nat) : (List UInt8) × (List UInt8) × Unit → Option ((Int × Unit) × Unit) := runFn (U := U) Try.prog es_ref04_Lead ad_ref04_Lead n Try.f65 sg_ref04_Lead
noncomputable def g_ref04_Lead : (List UInt8) × (List UInt8) × Unit → Option ((Int × Unit) × Unit) := h_ref04_Lead fuel
noncomputable def e_ref04_Lead : Ent U := ⟨65, sg_ref04_Lead, g_ref04_Lead⟩
noncomputable def bd_ref04_Lead : Code := match Try.f65.body with | some c => c | none => .skip
noncomputable def fn_ref04_Lead : St U → Option ((Int × Unit) × Unit) := finOf (U := U) Try.prog Try.f65 0 sg_ref04_Lead
noncomputable def L_ref04_Lead_0 (n m : Nat) (a0 : List UInt8) (a1 : List UInt8) (x5 : Int) : Option ((Int × Unit) × Unit) :=
  evAt Try.prog (tab es_ref04_Lead) ad_ref04_Lead n bd_ref04_Lead [.r, .r, .l, .l, .at m] fn_ref04_Lead (fun _ _ => none) fn_ref04_Lead
    [(0, .one (.str a0)), (1, .one (.str a1)), (5, .one (.int .i64 x5))]
def sg_ref24_update : Sig τ := ⟨[(false, T_api_Msg), (false, T_int)], [T_string]⟩
def ad_ref24_update : Adv := ⟨57, [[1, 2], [1, 2, 5], [1, 2, 5, 13], [1, 2, 5], [1, 2, 5, 6], [1, 2, 6, 8], [9], [4]], [], []⟩
noncomputable def es_ref24_update : List (Ent U) := [e_ref19_Put, e_ref02_Of, e_ref21_Bytes, e_ref18_Put]
noncomputable def g_ref24_update : S_api_Msg × Int × Unit → Option (((List UInt8) × Unit) × Unit) := runFn (U := U) Try.prog es_ref24_update ad_ref24_update 0 Try.f68 sg_ref24_update
noncomputable def e_ref24_update : Ent U := ⟨68, sg_ref24_update, g_ref24_update⟩
def sg_ref24_Put : Sig τ := ⟨[(false, T_api_Ctx), (false, T_api_Msg)], [T_string, T_api_Ctx, T_api_Errno]⟩
def ad_ref24_Put : Adv := ⟨105, [[2, 3, 5], [2, 3, 5, 13], [4, 5, 6], [2, 3, 5, 17], [4, 5, 6], [2, 3, 5, 7], [2, 3, 5, 7, 8], [2, 3, 5, 7, 8, 24], [2, 3, 5, 7, 8, 9], [2, 3, 5, 7, 8, 9, 37], [4, 5, 6], [2, 3, 5, 8, 9, 43], [2, 3, 5, 8, 9], [2, 3, 5, 8, 9], [2, 3, 5, 8, 9, 56], [2, 3, 5, 8, 9], [2, 3, 5, 8], [2, 3, 5, 8, 10], [2, 3, 5, 8, 10, 77], [2, 3, 5, 8, 10], [2, 3, 5, 8, 10, 92], [2, 3, 5, 8, 10], [4, 5, 6]], [], []⟩
noncomputable def es_ref24_Put : List (Ent U) := [e_ref24_Right, e_ref24_other, e_ref22_Family, e_ref24_id, e_ref24_hop, e_ref21_Base, e_ref21_Bytes, e_ref04_Lead, e_ref24_update]
noncomputable def g_ref24_Put : S_api_Ctx × S_api_Msg × Unit → Option (((List UInt8) × S_api_Ctx × Int × Unit) × Unit) := runFn (U := U) Try.prog es_ref24_Put ad_ref24_Put 0 Try.f34 sg_ref24_Put
noncomputable def e_ref24_Put : Ent U := ⟨34, sg_ref24_Put, g_ref24_Put⟩
def sg_ref18_Wrap : Sig τ := ⟨[(false, T_string)], [T_string, T_bool]⟩
def ad_ref18_Wrap : Adv := ⟨13, [[0], [0, 6], [2, 3], [2, 3]], [], []⟩
noncomputable def es_ref18_Wrap : List (Ent U) := [e_ref02_Of]
noncomputable def g_ref18_Wrap : (List UInt8) × Unit → Option (((List UInt8) × Bool × Unit) × Unit) := runFn (U := U) Try.prog es_ref18_Wrap ad_ref18_Wrap 0 Try.f28 sg_ref18_Wrap
noncomputable def e_ref18_Wrap : Ent U := ⟨28, sg_ref18_Wrap, g_ref18_Wrap⟩
def sg_ref25_Encode : Sig τ := ⟨[(false, T_list_api_Msg)], [T_string, T_int, T_api_Errno]⟩
def ad_ref25_Encode : Adv := ⟨61, [[0], [0, 5], [0, 5, 17], [0, 5], [0, 5, 25], [2, 3, 4], [0, 6], [0, 6, 7], [0, 6, 7, 8], [0, 6, 7, 8, 30], [0, 6, 7, 8], [0, 6, 7, 8, 9, 10, 11], [0, 6, 7, 8, 9, 10, 11, 44], [2, 3, 4], [0, 6, 7, 8, 9], [0, 6, 7, 8], [0, 6, 7, 8, 53], [2, 3, 4], [12], [2, 3, 4]], [], []⟩
noncomputable def es_ref25_Encode : List (Ent U) := [e_ref24_Right, e_ref24_Put, e_ref18_Wrap]
noncomputable def h_ref25_Encode (n : Nat) : (List S_api_Msg) × Unit → Option (((List UInt8) × Int × Int × Unit) × Unit) := runFn (U := U) Try.prog es_ref25_Encode ad_ref25_Encode n Try.f15 sg_ref25_Encode
noncomputable def g_ref25_Encode : (List S_api_Msg) × Unit → Option (((List UInt8) × Int × Int × Unit) × Unit) := h_ref25_Encode fuel
noncomputable def e_ref25_Encode : Ent U := ⟨15, sg_ref25_Encode, g_ref25_Encode⟩
noncomputable def bd_ref25_Encode : Code := match Try.f15.body with | some c => c | none => .skip
noncomputable def fn_ref25_Encode : St U → Option (((List UInt8) × Int × Int × Unit) × Unit) := finOf (U := U) Try.prog Try.f15 0 sg_ref25_Encode
noncomputable def L_ref25_Encode_0 (n m : Nat) (a0 : List S_api_Msg) (x5 : Int) : Option (((List UInt8) × Int × Int × Unit) × Unit) :=
  evAt Try.prog (tab es_ref25_Encode) ad_ref25_Encode n bd_ref25_Encode [.r, .l, .r, .l, .at m] fn_ref25_Encode (fun _ _ => none) fn_ref25_Encode
    [(0, .one (.sl 61 a0 .ro)), (5, .one (.int .i64 x5))]
noncomputable def L_ref25_Encode_1 (n m : Nat) (a0 : List S_api_Msg) (x6 : List UInt8) (x7_0 : List UInt8) (x7_1 : List UInt8) (x7_2 : List UInt8) (x7_3 : List UInt8) (x7_4 : List UInt8) (x7_5 : List UInt8) (x7_6 : List UInt8) (x8 : Int) : Option (((List UInt8) × Int × Int × Unit) × Unit) :=
  evAt Try.prog (tab es_ref25_Encode) ad_ref25_Encode n bd_ref25_Encode [.r, .r, .r, .r, .l, .r, .l, .at m] fn_ref25_Encode (fun _ _ => none) fn_ref25_Encode
    [(0, .one (.sl 61 a0 .ro)), (6, .one (.str x6)), (7, .box [.str x7_0, .str x7_1, .str x7_2, .str x7_3, .str x7_4, .str x7_5, .str x7_6]), (8, .one (.int .i64 x8))]
def sg_ref24_Plain : Sig τ := ⟨[(false, T_api_Msg)], [T_string, T_bool]⟩
def ad_ref24_Plain : Adv := ⟨31, [[1], [1, 7], [2, 3], [1, 10], [2, 3], [1, 4], [1, 4, 15], [1, 4], [1, 4, 21], [1, 4], [2, 3]], [], []⟩
noncomputable def es_ref24_Plain : List (Ent U) := [e_ref24_Right, e_ref24_other, e_ref24_id, e_ref24_hop, e_ref24_update]
noncomputable def g_ref24_Plain : S_api_Msg × Unit → Option (((List UInt8) × Bool × Unit) × Unit) := runFn (U := U) Try.prog es_ref24_Plain ad_ref24_Plain 0 Try.f36 sg_ref24_Plain
noncomputable def e_ref24_Plain : Ent U := ⟨36, sg_ref24_Plain, g_ref24_Plain⟩
def sg_ref25_Plain : Sig τ := ⟨[(false, T_list_api_Msg)], [T_int]⟩
def ad_ref25_Plain : Adv := ⟨28, [[0], [0, 3], [0, 3, 4], [0, 3, 4, 10], [0, 3, 4], [0, 3, 4, 5, 6], [0, 3, 4, 5, 22], [2], [0, 3, 4], [2]], [], []⟩
noncomputable def es_ref25_Plain : List (Ent U) := [e_ref24_Plain]
noncomputable def h_ref25_Plain (n : Nat) : (List S_api_Msg) × Unit → Option ((Int × Unit) × Unit) := runFn (U := U) Try.prog es_ref25_Plain ad_ref25_Plain n Try.f17 sg_ref25_Plain
noncomputable def g_ref25_Plain : (List S_api_Msg) × Unit → Option ((Int × Unit) × Unit) := h_ref25_Plain fuel
noncomputable def e_ref25_Plain : Ent U := ⟨17, sg_ref25_Plain, g_ref25_Plain⟩
noncomputable def bd_ref25_Plain : Code := match Try.f17.body with | some c => c | none => .skip
noncomputable def fn_ref25_Plain : St U → Option ((Int × Unit) × Unit) := finOf (U := U) Try.prog Try.f17 0 sg_ref25_Plain
noncomputable def L_ref25_Plain_0 (n m : Nat) (a0 : List S_api_Msg) (x3 : Int) (x4 : Int) : Option ((Int × Unit) × Unit) :=
  evAt Try.prog (tab es_ref25_Plain) ad_ref25_Plain n bd_ref25_Plain [.r, .r, .l, .r, .l, .at m] fn_ref25_Plain (fun _ _ => none) fn_ref25_Plain
    [(0, .one (.sl 61 a0 .ro)), (3, .one (.int .i64 x3)), (4, .one (.int .i64 x4))]
def sg_law25_OutletEncodes : Sig τ := ⟨[(false, T_list_api_Msg)], [T_bool]⟩
def ad_law25_OutletEncodes : Adv := ⟨48, [[0], [0, 11], [2], [0, 3, 4, 5], [0, 3, 4, 5, 6, 7, 8], [2]], [], []⟩
noncomputable def es_law25_OutletEncodes : List (Ent U) := [e_ref07_FewAll, e_law25_awake, e_outlet_Encode, e_ref25_Encode, e_outlet_Plain, e_ref25_Plain]
noncomputable def g_law25_OutletEncodes : (List S_api_Msg) × Unit → Option ((Bool × Unit) × Unit) := runFn (U := U) Try.prog es_law25_OutletEncodes ad_law25_OutletEncodes 0 Try.f3 sg_law25_OutletEncodes
noncomputable def e_law25_OutletEncodes : Ent U := ⟨3, sg_law25_OutletEncodes, g_law25_OutletEncodes⟩
def sg_ref18_Body : Sig τ := ⟨[(false, T_string)], [T_string, T_int, T_api_Errno]⟩
def ad_ref18_Body : Adv := ⟨43, [[0], [0, 6], [2, 3, 4], [0, 10], [2, 3, 4], [0, 16], [2, 3, 4], [0, 20], [2, 3, 4], [0, 5], [0, 5, 36], [2, 3, 4], [2, 3, 4]], [], []⟩
noncomputable def es_ref18_Body : List (Ent U) := []
noncomputable def g_ref18_Body : (List UInt8) × Unit → Option (((List UInt8) × Int × Int × Unit) × Unit) := runFn (U := U) Try.prog es_ref18_Body ad_ref18_Body 0 Try.f20 sg_ref18_Body
noncomputable def e_ref18_Body : Ent U := ⟨20, sg_ref18_Body, g_ref18_Body⟩
def sg_ref18_Split : Sig τ := ⟨[(false, T_string), (false, T_int)], [T_list_api_Tlv, T_int, T_api_Errno]⟩
def ad_ref18_Split : Adv := ⟨77, [[0, 1], [0, 1, 7], [0, 1, 7, 8], [0, 1, 7, 8, 13], [0, 1, 7, 8, 17], [0, 1, 7, 8], [0, 1, 7, 8], [0, 1, 7, 8, 44], [4, 5, 6], [0, 1, 7, 8, 9], [0, 1, 7, 8, 9], [0, 1, 7, 8], [4, 5, 6]], [18, 53], []⟩
noncomputable def es_ref18_Split : List (Ent U) := []
noncomputable def h_ref18_Split (n : Nat) : (List UInt8) × Int × Unit → Option (((List S_api_Tlv) × Int × Int × Unit) × Unit) := runFn (U := U) Try.prog es_ref18_Split ad_ref18_Split n Try.f26 sg_ref18_Split
noncomputable def g_ref18_Split : (List UInt8) × Int × Unit → Option (((List S_api_Tlv) × Int × Int × Unit) × Unit) := h_ref18_Split fuel
noncomputable def e_ref18_Split : Ent U := ⟨26, sg_ref18_Split, g_ref18_Split⟩
noncomputable def bd_ref18_Split : Code := match Try.f26.body with | some c => c | none => .skip
noncomputable def fn_ref18_Split : St U → Option (((List S_api_Tlv) × Int × Int × Unit) × Unit) := finOf (U := U) Try.prog Try.f26 0 sg_ref18_Split
noncomputable def L_ref18_Split_0 (n m : Nat) (a0 : List UInt8) (a1 : Int) (x7 : List S_api_Tlv) (x8 : Int) : Option (((List S_api_Tlv) × Int × Int × Unit) × Unit) :=
  evAt Try.prog (tab es_ref18_Split) ad_ref18_Split n bd_ref18_Split [.r, .r, .r, .l, .l, .at m] fn_ref18_Split (fun _ _ => none) fn_ref18_Split
    [(0, .one (.str a0)), (1, .one (.int .i64 a1)), (7, .one (.sl 38 x7 .app)), (8, .one (.int .i64 x8))]
def sg_ref18_Trailer : Sig τ := ⟨[(false, T_string)], [T_string]⟩
def ad_ref18_Trailer : Adv := ⟨17, [[0], [0, 3], [2]], [], []⟩
noncomputable def es_ref18_Trailer : List (Ent U) := [e_ref18_Body]
noncomputable def g_ref18_Trailer : (List UInt8) × Unit → Option (((List UInt8) × Unit) × Unit) := runFn (U := U) Try.prog es_ref18_Trailer ad_ref18_Trailer 0 Try.f37 sg_ref18_Trailer
noncomputable def e_ref18_Trailer : Ent U := ⟨37, sg_ref18_Trailer, g_ref18_Trailer⟩
def sg_ref19_Get : Sig τ := ⟨[(false, T_string)], [T_list_api_Sub, T_bool, T_api_Errno]⟩
def ad_ref19_Get : Adv := ⟨68, [[0], [5, 7], [5, 7, 18], [2, 3, 4], [5, 8], [5, 8, 9], [5, 8, 9, 10], [5, 8, 9, 10, 23], [5, 8, 9, 10], [5, 8, 9, 10, 39], [5, 8, 9, 10], [5, 8, 9, 10], [8, 9, 65], [2, 3, 4], [2, 3, 4]], [40], []⟩
noncomputable def es_ref19_Get : List (Ent U) := [e_ref18_Split, e_ref07_Bytes]
noncomputable def h_ref19_Get (n : Nat) : (List UInt8) × Unit → Option (((List S_api_Sub) × Bool × Int × Unit) × Unit) := runFn (U := U) Try.prog es_ref19_Get ad_ref19_Get n Try.f130 sg_ref19_Get
noncomputable def g_ref19_Get : (List UInt8) × Unit → Option (((List S_api_Sub) × Bool × Int × Unit) × Unit) := h_ref19_Get fuel
noncomputable def e_ref19_Get : Ent U := ⟨130, sg_ref19_Get, g_ref19_Get⟩
noncomputable def bd_ref19_Get : Code := match Try.f130.body with | some c => c | none => .skip
noncomputable def fn_ref19_Get : St U → Option (((List S_api_Sub) × Bool × Int × Unit) × Unit) := finOf (U := U) Try.prog Try.f130 0 sg_ref19_Get
noncomputable def L_ref19_Get_0 (n m : Nat) (r1 : ((List S_api_Tlv) × Int × Int × Unit) × Unit) (x8 : List S_api_Sub) (x9 : Bool) (x10 : Int) : Option (((List S_api_Sub) × Bool × Int × Unit) × Unit) :=
  evAt Try.prog (tab es_ref19_Get) ad_ref19_Get n bd_ref19_Get [.r, .r, .r, .r, .r, .l, .r, .l, .at m] fn_ref19_Get (fun _ _ => none) fn_ref19_Get
    [(5, .one (.sl 38 r1.1.1 .ro)), (8, .one (.sl 75 x8 .app)), (9, .one (.bool x9)), (10, .one (.int .i64 x10))]
def sg_ref22_fixed : Sig τ := ⟨[(false, T_string), (false, T_int)], [T_bool, T_api_Errno]⟩
def ad_ref22_fixed : Adv := ⟨23, [[0, 1], [0, 1, 12], [4, 5], [7, 8], [4, 5]], [], []⟩
noncomputable def es_ref22_fixed : List (Ent U) := [e_ref19_Get]
noncomputable def g_ref22_fixed : (List UInt8) × Int × Unit → Option ((Bool × Int × Unit) × Unit) := runFn (U := U) Try.prog es_ref22_fixed ad_ref22_fixed 0 Try.f124 sg_ref22_fixed
noncomputable def e_ref22_fixed : Ent U := ⟨124, sg_ref22_fixed, g_ref22_fixed⟩
def sg_ref20_Long : Sig τ := ⟨[(false, T_int)], [T_int]⟩
def ad_ref20_Long : Adv := ⟨7, [[0], [2]], [], []⟩
noncomputable def es_ref20_Long : List (Ent U) := []
noncomputable def g_ref20_Long : Int × Unit → Option ((Int × Unit) × Unit) := runFn (U := U) Try.prog es_ref20_Long ad_ref20_Long 0 Try.f128 sg_ref20_Long
noncomputable def e_ref20_Long : Ent U := ⟨128, sg_ref20_Long, g_ref20_Long⟩
def sg_ref06_Long : Sig τ := ⟨[(false, T_string)], [T_string, T_bool]⟩
def ad_ref06_Long : Adv := ⟨10, [[0], [0, 6], [2, 3], [2, 3]], [], []⟩
noncomputable def es_ref06_Long : List (Ent U) := [e_ref06_link]
noncomputable def g_ref06_Long : (List UInt8) × Unit → Option (((List UInt8) × Bool × Unit) × Unit) := runFn (U := U) Try.prog es_ref06_Long ad_ref06_Long 0 Try.f129 sg_ref06_Long
noncomputable def e_ref06_Long : Ent U := ⟨129, sg_ref06_Long, g_ref06_Long⟩
def sg_ref22_hop : Sig τ := ⟨[(false, T_api_Ctx), (false, T_string)], [T_api_Ctx, T_api_Errno]⟩
def ad_ref22_hop : Adv := ⟨58, [[1, 2, 4], [1, 2, 4, 13], [4, 5], [1, 2, 4, 6], [1, 2, 4, 6, 23], [4, 5], [1, 2, 4, 6, 7], [1, 2, 4, 6, 7, 8, 9], [1, 2, 4, 6, 7, 9, 39], [4, 5], [2, 4, 6, 10], [2, 4, 6, 10, 46], [2, 4, 6, 10], [2, 4], [4, 5]], [], []⟩
noncomputable def es_ref22_hop : List (Ent U) := [e_ref20_Long, e_ref22_fixed, e_ref06_Long, e_ref22_Family]
noncomputable def g_ref22_hop : S_api_Ctx × (List UInt8) × Unit → Option ((S_api_Ctx × Int × Unit) × Unit) := runFn (U := U) Try.prog es_ref22_hop ad_ref22_hop 0 Try.f125 sg_ref22_hop
noncomputable def e_ref22_hop : Ent U := ⟨125, sg_ref22_hop, g_ref22_hop⟩
def sg_ref08_Number : Sig τ := ⟨[(false, T_string)], [T_int]⟩
def ad_ref08_Number : Adv := ⟨23, [[0], [0, 3], [0, 3, 4], [0, 3, 4, 12], [0, 3, 4], [0, 3, 4], [2]], [], []⟩
noncomputable def es_ref08_Number : List (Ent U) := []
noncomputable def h_ref08_Number (n : Nat) : (List UInt8) × Unit → Option ((Int × Unit) × Unit) := runFn (U := U) Try.prog es_ref08_Number ad_ref08_Number n Try.f127 sg_ref08_Number
noncomputable def g_ref08_Number : (List UInt8) × Unit → Option ((Int × Unit) × Unit) := h_ref08_Number fuel
noncomputable def e_ref08_Number : Ent U := ⟨127, sg_ref08_Number, g_ref08_Number⟩
noncomputable def bd_ref08_Number : Code := match Try.f127.body with | some c => c | none => .skip
noncomputable def fn_ref08_Number : St U → Option ((Int × Unit) × Unit) := finOf (U := U) Try.prog Try.f127 0 sg_ref08_Number
noncomputable def L_ref08_Number_0 (n m : Nat) (a0 : List UInt8) (x3 : Int) (x4 : Int) : Option ((Int × Unit) × Unit) :=
  evAt Try.prog (tab es_ref08_Number) ad_ref08_Number n bd_ref08_Number [.r, .r, .l, .r, .l, .at m] fn_ref08_Number (fun _ _ => none) fn_ref08_Number
    [(0, .one (.str a0)), (3, .one (.int .i64 x3)), (4, .one (.int .i64 x4))]
def sg_ref21_great : Sig τ := ⟨[(false, T_int), (false, T_int)], [T_bool]⟩
def ad_ref21_great : Adv := ⟨24, [[0, 1], [1, 5], [1, 5, 6], [4], [1, 5, 10], [4], [1, 14], [4], [4]], [], []⟩
noncomputable def es_ref21_great : List (Ent U) := []
noncomputable def g_ref21_great : Int × Int × Unit → Option ((Bool × Unit) × Unit) := runFn (U := U) Try.prog es_ref21_great ad_ref21_great 0 Try.f131 sg_ref21_great
noncomputable def e_ref21_great : Ent U := ⟨131, sg_ref21_great, g_ref21_great⟩
def sg_ref21_Take : Sig τ := ⟨[(false, T_api_Tlv)], [T_api_Raw, T_bool, T_api_Errno]⟩
def ad_ref21_Take : Adv := ⟨91, [[1, 2], [2, 5], [2, 5, 15], [2, 3, 4], [2, 5, 6], [2, 5, 6, 41], [2, 3, 4], [2, 5, 6, 47], [2, 3, 4], [2, 5, 6, 7], [2, 5, 6, 7, 60], [2, 3, 4], [2, 5, 6, 7, 66], [2, 3, 4], [2, 5, 6, 7, 8, 9, 10], [2, 5, 6, 7, 8, 9, 10, 78], [2, 3, 4], [2, 6, 9], [2, 6, 88], [2, 6], [2, 3, 4]], [], []⟩
noncomputable def es_ref21_Take : List (Ent U) := [e_ref08_Number, e_ref21_great, e_ref04_Least, e_ref21_Base, e_ref19_Get]
noncomputable def g_ref21_Take : S_api_Tlv × Unit → Option ((S_api_Raw × Bool × Int × Unit) × Unit) := runFn (U := U) Try.prog es_ref21_Take ad_ref21_Take 0 Try.f157 sg_ref21_Take
noncomputable def e_ref21_Take : Ent U := ⟨157, sg_ref21_Take, g_ref21_Take⟩
def sg_ref04_Fill : Sig τ := ⟨[(false, T_string), (false, T_int)], [T_string]⟩
def ad_ref04_Fill : Adv := ⟨12, [[0, 1], [0, 1, 8], [0, 1], [4]], [], []⟩
noncomputable def es_ref04_Fill : List (Ent U) := []
noncomputable def h_ref04_Fill (n : Nat) : (List UInt8) × Int × Unit → Option (((List UInt8) × Unit) × Unit) := runFn (U := U) Try.prog es_ref04_Fill ad_ref04_Fill n Try.f159 sg_ref04_Fill
noncomputable def g_ref04_Fill : (List UInt8) × Int × Unit → Option (((List UInt8) × Unit) × Unit) := h_ref04_Fill fuel
noncomputable def e_ref04_Fill : Ent U := ⟨159, sg_ref04_Fill, g_ref04_Fill⟩
noncomputable def bd_ref04_Fill : Code := match Try.f159.body with | some c => c | none => .skip
noncomputable def fn_ref04_Fill : St U → Option (((List UInt8) × Unit) × Unit) := finOf (U := U) Try.prog Try.f159 0 sg_ref04_Fill
noncomputable def L_ref04_Fill_0 (n m : Nat) (a1 : Int) (x0 : List UInt8) : Option (((List UInt8) × Unit) × Unit) :=
  evAt Try.prog (tab es_ref04_Fill) ad_ref04_Fill n bd_ref04_Fill [.r, .l, .l, .at m] fn_ref04_Fill (fun _ _ => none) fn_ref04_Fill
    [(0, .one (.str x0)), (1, .one (.int .i64 a1))]
def sg_ref21_Whole : Sig τ := ⟨[(false, T_int), (false, T_string), (false, T_int)], [T_string]⟩
def ad_ref21_Whole : Adv := ⟨33, [[0, 1, 2], [1, 2, 9], [1, 2, 9, 10], [6], [1, 2, 9, 16], [6], [1, 2, 22], [2, 7], [6], [6]], [], []⟩
noncomputable def es_ref21_Whole : List (Ent U) := [e_ref04_Fill, e_ref03_Keep, e_ref06_Long]
noncomputable def g_ref21_Whole : Int × (List UInt8) × Int × Unit → Option (((List UInt8) × Unit) × Unit) := runFn (U := U) Try.prog es_ref21_Whole ad_ref21_Whole 0 Try.f133 sg_ref21_Whole
noncomputable def e_ref21_Whole : Ent U := ⟨133, sg_ref21_Whole, g_ref21_Whole⟩
def sg_ref22_told : Sig τ := ⟨[(false, T_api_Ctx), (false, T_api_Raw), (false, T_string)], [T_api_Msg, T_bool]⟩
def ad_ref22_told : Adv := ⟨51, [[2, 3, 4, 6], [3, 4, 6, 8], [3, 4, 6, 8, 25], [6, 7], [3, 4, 6, 8, 29], [6, 7], [3, 4, 6, 8, 38], [6, 7], [6, 8], [6, 7]], [], []⟩
noncomputable def es_ref22_told : List (Ent U) := [e_ref22_Family]
noncomputable def g_ref22_told : S_api_Ctx × S_api_Raw × (List UInt8) × Unit → Option ((S_api_Msg × Bool × Unit) × Unit) := runFn (U := U) Try.prog es_ref22_told ad_ref22_told 0 Try.f158 sg_ref22_told
noncomputable def e_ref22_told : Ent U := ⟨158, sg_ref22_told, g_ref22_told⟩
def sg_ref22_update : Sig τ := ⟨[(false, T_api_Ctx), (false, T_api_Tlv)], [T_api_Ctx, T_list_api_Msg, T_api_Errno]⟩
def ad_ref22_update : Adv := ⟨109, [[2, 3, 4], [2, 4, 7, 8, 9], [2, 4, 7, 9, 26], [4, 5, 6], [2, 4, 7, 10], [2, 4, 7, 10, 31], [2, 4, 7, 11], [2, 4, 7, 11, 38], [4, 5, 6], [2, 4, 7, 10], [2, 4, 7, 12], [2, 4, 7, 12, 64], [2, 4, 7, 12], [2, 4, 7, 12, 79], [2, 4, 7, 12], [2, 4, 7, 12, 84], [2, 4, 7, 12], [2, 4, 7, 12], [2, 4, 13, 14], [2, 4, 13, 104], [4, 5, 6], [4, 5, 6]], [], []⟩
noncomputable def es_ref22_update : List (Ent U) := [e_ref21_Take, e_ref21_Base, e_ref21_Whole, e_ref22_told]
noncomputable def g_ref22_update : S_api_Ctx × S_api_Tlv × Unit → Option ((S_api_Ctx × (List S_api_Msg) × Int × Unit) × Unit) := runFn (U := U) Try.prog es_ref22_update ad_ref22_update 0 Try.f126 sg_ref22_update
noncomputable def e_ref22_update : Ent U := ⟨126, sg_ref22_update, g_ref22_update⟩
def sg_ref22_Step : Sig τ := ⟨[(false, T_api_Ctx), (false, T_api_Tlv)], [T_api_Ctx, T_list_api_Msg, T_api_Errno]⟩
def ad_ref22_Step : Adv := ⟨49, [[2, 3, 4], [2, 3, 4, 12], [2, 3, 4, 12, 13], [2, 3, 4, 7, 8], [2, 3, 4, 8, 25], [2, 4, 8], [4, 5, 6], [2, 3, 4, 32], [4, 9, 10], [4, 5, 6], [4, 5, 6]], [], []⟩
noncomputable def es_ref22_Step : List (Ent U) := [e_ref22_fixed, e_ref22_hop, e_ref22_update]
noncomputable def g_ref22_Step : S_api_Ctx × S_api_Tlv × Unit → Option ((S_api_Ctx × (List S_api_Msg) × Int × Unit) × Unit) := runFn (U := U) Try.prog es_ref22_Step ad_ref22_Step 0 Try.f78 sg_ref22_Step
noncomputable def e_ref22_Step : Ent U := ⟨78, sg_ref22_Step, g_ref22_Step⟩
def sg_ref20_Get : Sig τ := ⟨[(false, T_api_Tlv)], [T_api_Msg, T_bool, T_api_Errno]⟩
def ad_ref20_Get : Adv := ⟨108, [[1, 2], [1, 2, 5], [1, 2, 5, 6], [1, 2, 5, 6, 15], [1, 2, 5, 6], [1, 2, 5, 6, 19], [2, 3, 4], [1, 2, 5, 6, 7], [2, 5, 6, 7, 23], [2, 5, 7], [2, 5, 7, 36], [2, 3, 4], [2, 5, 6, 7], [2, 5, 6, 7, 45], [2, 3, 4], [2, 5, 6, 7], [2, 5, 6, 7, 53], [2, 5, 6, 7], [2, 5, 6, 7, 23, 61], [2, 5, 6, 7], [2, 5, 6, 7, 23, 70], [2, 5, 6, 7], [2, 5, 6, 7, 76], [2, 5, 6, 7], [2, 7, 8, 9, 10], [2, 7, 8, 10, 102], [2, 3, 4], [2, 7], [2, 3, 4]], [], []⟩
noncomputable def es_ref20_Get : List (Ent U) := [e_ref08_Number, e_ref19_Get, e_ref20_Long, e_ref06_Long]
noncomputable def g_ref20_Get : S_api_Tlv × Unit → Option ((S_api_Msg × Bool × Int × Unit) × Unit) := runFn (U := U) Try.prog es_ref20_Get ad_ref20_Get 0 Try.f79 sg_ref20_Get
noncomputable def e_ref20_Get : Ent U := ⟨79, sg_ref20_Get, g_ref20_Get⟩
def sg_ref21_Get : Sig τ := ⟨[(false, T_api_Tlv)], [T_api_Msg, T_bool, T_api_Errno]⟩
def ad_ref21_Get : Adv := ⟨104, [[1, 2], [1, 2, 5], [1, 2, 5, 6], [1, 2, 5, 6, 18], [1, 2, 5, 6], [1, 2, 5, 6, 22], [2, 3, 4], [1, 2, 5, 6, 7, 8], [1, 2, 5, 6, 7, 8, 31], [2, 3, 4], [1, 2, 5, 6, 7, 8, 35], [2, 3, 4], [1, 2, 5, 6, 7, 8, 9], [1, 2, 5, 6, 7, 8, 9, 47], [2, 3, 4], [1, 2, 5, 6, 7, 8, 9, 10, 11, 12], [1, 2, 5, 6, 7, 8, 9, 10, 12, 64], [2, 3, 4], [1, 2, 5, 7, 13], [2, 5, 7, 13, 82], [2, 7, 13], [2, 13, 101], [2, 3, 4], [2, 3, 4]], [], []⟩
noncomputable def es_ref21_Get : List (Ent U) := [e_ref21_great, e_ref04_Least, e_ref21_Base, e_ref19_Get, e_ref21_Whole, e_ref08_Number]
noncomputable def g_ref21_Get : S_api_Tlv × Unit → Option ((S_api_Msg × Bool × Int × Unit) × Unit) := runFn (U := U) Try.prog es_ref21_Get ad_ref21_Get 0 Try.f80 sg_ref21_Get
noncomputable def e_ref21_Get : Ent U := ⟨80, sg_ref21_Get, g_ref21_Get⟩
def sg_ref23_one : Sig τ := ⟨[(false, T_api_Ctx), (false, T_api_Tlv)], [T_api_Ctx, T_list_api_Msg, T_api_Errno]⟩
def ad_ref23_one : Adv := ⟨62, [[2, 3, 4], [2, 3, 4, 7], [2, 3, 4, 7], [2, 3, 4, 7, 9], [2, 3, 4, 7, 9, 11], [2, 4, 7, 8, 9], [2, 3, 4, 7, 9, 11, 17], [2, 3, 4, 7, 9, 11, 17], [4, 5, 6], [2, 3, 4, 7, 9, 11, 21], [2, 3, 4, 7, 9, 11, 21], [2, 3, 4, 7, 9, 11, 21], [4, 5, 6], [2, 3, 4, 7, 9, 11, 31], [2, 3, 4, 7, 9, 11, 31], [2, 3, 4, 7, 9, 11, 31], [2, 3, 4, 7, 9, 11, 31], [2, 4, 7, 8, 9], [2, 3, 4, 7, 9, 11, 42], [2, 3, 4, 7, 9, 42], [2, 4, 7, 8, 9], [2, 4, 7, 9, 56], [4, 5, 6], [4, 5, 6]], [], []⟩
noncomputable def es_ref23_one : List (Ent U) := [e_ref22_Step, e_ref20_Get, e_ref21_Get]
noncomputable def g_ref23_one : S_api_Ctx × S_api_Tlv × Unit → Option ((S_api_Ctx × (List S_api_Msg) × Int × Unit) × Unit) := runFn (U := U) Try.prog es_ref23_one ad_ref23_one 0 Try.f43 sg_ref23_one
noncomputable def e_ref23_one : Ent U := ⟨43, sg_ref23_one, g_ref23_one⟩
def sg_ref23_Fold : Sig τ := ⟨[(false, T_list_api_Tlv)], [T_list_api_Msg, T_api_Ctx, T_int, T_api_Errno]⟩
def ad_ref23_Fold : Adv := ⟨43, [[0, 3], [0, 3, 6], [0, 3, 6, 7], [0, 3, 6, 7, 8], [0, 3, 6, 7, 8, 15], [0, 3, 6, 7, 8], [0, 3, 6, 7, 8, 9, 10, 11], [0, 3, 6, 7, 8, 9, 10, 11, 29], [2, 3, 4, 5], [0, 3, 6, 7, 8, 10], [0, 3, 6, 7, 8], [2, 3, 4, 5]], [38], []⟩
noncomputable def es_ref23_Fold : List (Ent U) := [e_ref23_one]
noncomputable def h_ref23_Fold (n : Nat) : (List S_api_Tlv) × Unit → Option (((List S_api_Msg) × S_api_Ctx × Int × Int × Unit) × Unit) := runFn (U := U) Try.prog es_ref23_Fold ad_ref23_Fold n Try.f24 sg_ref23_Fold
noncomputable def g_ref23_Fold : (List S_api_Tlv) × Unit → Option (((List S_api_Msg) × S_api_Ctx × Int × Int × Unit) × Unit) := h_ref23_Fold fuel
noncomputable def e_ref23_Fold : Ent U := ⟨24, sg_ref23_Fold, g_ref23_Fold⟩
noncomputable def bd_ref23_Fold : Code := match Try.f24.body with | some c => c | none => .skip
noncomputable def fn_ref23_Fold : St U → Option (((List S_api_Msg) × S_api_Ctx × Int × Int × Unit) × Unit) := finOf (U := U) Try.prog Try.f24 0 sg_ref23_Fold
noncomputable def L_ref23_Fold_0 (n m : Nat) (a0 : List S_api_Tlv) (x6 : List S_api_Msg) (x7_0 : List UInt8) (x7_1 : List UInt8) (x7_2 : List UInt8) (x7_3 : List UInt8) (x7_4 : List UInt8) (x7_5 : List UInt8) (x7_6 : List UInt8) (x8 : Int) : Option (((List S_api_Msg) × S_api_Ctx × Int × Int × Unit) × Unit) :=
  evAt Try.prog (tab es_ref23_Fold) ad_ref23_Fold n bd_ref23_Fold [.r, .r, .r, .l, .r, .l, .at m] fn_ref23_Fold (fun _ _ => none) fn_ref23_Fold
    [(0, .one (.sl 38 a0 .ro)), (3, .box [.str ([] : List UInt8), .str ([] : List UInt8), .str ([] : List UInt8), .str ([] : List UInt8), .str ([] : List UInt8), .str ([] : List UInt8), .str ([] : List UInt8)]), (6, .one (.sl 61 x6 .app)), (7, .box [.str x7_0, .str x7_1, .str x7_2, .str x7_3, .str x7_4, .str x7_5, .str x7_6]), (8, .one (.int .i64 x8))]
def sg_ref23_Parse : Sig τ := ⟨[(false, T_string)], [T_list_api_Msg, T_int, T_api_Errno]⟩
def ad_ref23_Parse : Adv := ⟨55, [[0], [0, 5, 6, 7], [0, 5, 6, 7, 18], [2, 3, 4], [0, 5, 6, 7, 8], [0, 5, 6, 7, 8, 28], [2, 3, 4], [6, 7, 8], [6, 7, 8, 42], [2, 3, 4], [6, 7, 9], [2, 3, 4]], [], []⟩
noncomputable def es_ref23_Parse : List (Ent U) := [e_ref18_Body, e_ref18_Split, e_ref18_Trailer, e_ref23_Fold]
noncomputable def g_ref23_Parse : (List UInt8) × Unit → Option (((List S_api_Msg) × Int × Int × Unit) × Unit) := runFn (U := U) Try.prog es_ref23_Parse ad_ref23_Parse 0 Try.f18 sg_ref23_Parse
noncomputable def e_ref23_Parse : Ent U := ⟨18, sg_ref23_Parse, g_ref23_Parse⟩
def sg_ref07_SameAll : Sig τ := ⟨[(false, T_list_api_Msg), (false, T_list_api_Msg)], [T_bool]⟩
def ad_ref07_SameAll : Adv := ⟨27, [[0, 1], [0, 1, 10], [4], [0, 1, 5], [0, 1, 5, 14], [0, 1, 5], [0, 1, 5, 26], [4], [4]], [], []⟩
noncomputable def es_ref07_SameAll : List (Ent U) := [e_ref07_Same]
noncomputable def h_ref07_SameAll (n : Nat) : (List S_api_Msg) × (List S_api_Msg) × Unit → Option ((Bool × Unit) × Unit) := runFn (U := U) Try.prog es_ref07_SameAll ad_ref07_SameAll n Try.f19 sg_ref07_SameAll
noncomputable def g_ref07_SameAll : (List S_api_Msg) × (List S_api_Msg) × Unit → Option ((Bool × Unit) × Unit) := h_ref07_SameAll fuel
noncomputable def e_ref07_SameAll : Ent U := ⟨19, sg_ref07_SameAll, g_ref07_SameAll⟩
noncomputable def bd_ref07_SameAll : Code := match Try.f19.body with | some c => c | none => .skip
noncomputable def fn_ref07_SameAll : St U → Option ((Bool × Unit) × Unit) := finOf (U := U) Try.prog Try.f19 0 sg_ref07_SameAll
noncomputable def L_ref07_SameAll_0 (n m : Nat) (a0 : List S_api_Msg) (a1 : List S_api_Msg) (x5 : Int) : Option ((Bool × Unit) × Unit) :=
  evAt Try.prog (tab es_ref07_SameAll) ad_ref07_SameAll n bd_ref07_SameAll [.r, .r, .l, .r, .l, .at m] fn_ref07_SameAll (fun _ _ => none) fn_ref07_SameAll
    [(0, .one (.sl 61 a0 .ro)), (1, .one (.sl 61 a1 .ro)), (5, .one (.int .i64 x5))]
def sg_law25_OutletBack : Sig τ := ⟨[(false, T_list_api_Msg)], [T_bool]⟩
def ad_law25_OutletBack : Adv := ⟨72, [[0], [0, 11], [2], [0, 3, 4, 5], [0, 3, 4, 5, 20], [2], [0, 3, 6, 8], [2]], [], []⟩
noncomputable def es_law25_OutletBack : List (Ent U) := [e_ref07_FewAll, e_law25_awake, e_outlet_Encode, e_outlet_Plain, e_ref23_Parse, e_ref07_SameAll]
noncomputable def g_law25_OutletBack : (List S_api_Msg) × Unit → Option ((Bool × Unit) × Unit) := runFn (U := U) Try.prog es_law25_OutletBack ad_law25_OutletBack 0 Try.f4 sg_law25_OutletBack
noncomputable def e_law25_OutletBack : Ent U := ⟨4, sg_law25_OutletBack, g_law25_OutletBack⟩
def sg_law25_OutletAgain : Sig τ := ⟨[(false, T_string)], [T_bool]⟩
def ad_law25_OutletAgain : Adv := ⟨69, [[0], [0, 17], [2], [3, 5], [3, 26], [2], [3, 6, 8], [3, 6, 8, 9, 11], [3, 6, 8, 9, 11, 12, 14], [2]], [], []⟩
noncomputable def es_law25_OutletAgain : List (Ent U) := [e_law25_awake, e_ref23_Parse, e_outlet_Encode, e_ref07_SameAll]
noncomputable def g_law25_OutletAgain : (List UInt8) × Unit → Option ((Bool × Unit) × Unit) := runFn (U := U) Try.prog es_law25_OutletAgain ad_law25_OutletAgain 0 Try.f5 sg_law25_OutletAgain
noncomputable def e_law25_OutletAgain : Ent U := ⟨5, sg_law25_OutletAgain, g_law25_OutletAgain⟩
def sg_law25_OutletFirst : Sig τ := ⟨[(false, T_list_api_Msg), (false, T_uint8)], [T_bool]⟩
def ad_law25_OutletFirst : Adv := ⟨85, [[0, 1], [0, 1, 20], [4], [0, 5], [0, 5, 6, 8], [6, 8, 9, 11], [6, 9, 11, 43], [4], [9, 11, 12, 14], [11, 12, 14, 15, 17], [4]], [], []⟩
noncomputable def es_law25_OutletFirst : List (Ent U) := [e_ref07_FewAll, e_law25_awake, e_outlet_Encode, e_ref18_Body]
noncomputable def g_law25_OutletFirst : (List S_api_Msg) × Int × Unit → Option ((Bool × Unit) × Unit) := runFn (U := U) Try.prog es_law25_OutletFirst ad_law25_OutletFirst 0 Try.f6 sg_law25_OutletFirst
noncomputable def e_law25_OutletFirst : Ent U := ⟨6, sg_law25_OutletFirst, g_law25_OutletFirst⟩
end Go.VI
