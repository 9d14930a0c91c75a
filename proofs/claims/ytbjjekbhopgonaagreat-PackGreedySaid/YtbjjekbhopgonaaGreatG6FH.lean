import Derived.Test.YtbjjekbhopgonaaGreatG6FTy
set_option linter.unusedVariables false
set_option linter.unusedSimpArgs false
set_option maxRecDepth 1000000
set_option maxHeartbeats 4000000
namespace Go.VI
open Go Go.Proofs
def sg_ref07_Few : Sig τ := ⟨[(false, T_api_Msg)], [T_bool]⟩
def ad_ref07_Few : Adv := ⟨81, [[1], [1, 50], [2], [1, 3], [1, 3, 55], [1, 3], [1, 3, 65], [2], [1, 4], [1, 4, 70], [1, 4], [1, 4, 80], [2], [2]], [], []⟩
noncomputable def es_ref07_Few : List (Ent U) := []
noncomputable def h_ref07_Few (n : Nat) : S_api_Msg × Unit → Option ((Bool × Unit) × Unit) := runFn (U := U) Tryz.prog es_ref07_Few ad_ref07_Few n Tryz.f40 sg_ref07_Few
noncomputable def g_ref07_Few : S_api_Msg × Unit → Option ((Bool × Unit) × Unit) := h_ref07_Few fuel
noncomputable def e_ref07_Few : Ent U := ⟨40, sg_ref07_Few, g_ref07_Few⟩
noncomputable def fn_ref07_Few := lp (tab es_ref07_Few) ad_ref07_Few Tryz.f40 0 sg_ref07_Few
noncomputable def L_ref07_Few_0 (n m : Nat) (a0 : S_api_Msg) (x3 : Int) : Option ((Bool × Unit) × Unit) :=
  fn_ref07_Few n [.r, .r, .l, .r, .l, .at m] [(1, .box [.int .i64 a0.kind, .int .i64 a0.cmd, .int .i64 a0.ver, .str a0.auth, .int .i64 a0.family, .int .i64 a0.ae, .str a0.prefix_, .int .i64 a0.plen, .int .i64 a0.tag, .str a0.next, .int .i64 a0.metric, .str a0.id, .int .i64 a0.seq, .int .i64 a0.seq2, .int .i64 a0.interval, .int .i64 a0.flags, .int .i64 a0.hops, .int .i64 a0.nonce, .int .i64 a0.cost, .str a0.addr, .str a0.orig, .sl 87 a0.list .ro, .int .i64 a0.type_, .str a0.data, .sl 89 a0.subs .ro]), (3, .one (.int .i64 x3))]
noncomputable def L_ref07_Few_1 (n m : Nat) (a0 : S_api_Msg) (x4 : Int) : Option ((Bool × Unit) × Unit) :=
  fn_ref07_Few n [.r, .r, .r, .l, .r, .l, .at m] [(1, .box [.int .i64 a0.kind, .int .i64 a0.cmd, .int .i64 a0.ver, .str a0.auth, .int .i64 a0.family, .int .i64 a0.ae, .str a0.prefix_, .int .i64 a0.plen, .int .i64 a0.tag, .str a0.next, .int .i64 a0.metric, .str a0.id, .int .i64 a0.seq, .int .i64 a0.seq2, .int .i64 a0.interval, .int .i64 a0.flags, .int .i64 a0.hops, .int .i64 a0.nonce, .int .i64 a0.cost, .str a0.addr, .str a0.orig, .sl 87 a0.list .ro, .int .i64 a0.type_, .str a0.data, .sl 89 a0.subs .ro]), (4, .one (.int .i64 x4))]
def sg_ref07_FewAll : Sig τ := ⟨[(false, T_list_api_Msg), (false, T_int)], [T_bool]⟩
def ad_ref07_FewAll : Adv := ⟨22, [[0, 1], [0, 9], [4], [0, 5], [0, 5, 13], [0, 5], [0, 5, 21], [4], [4]], [], []⟩
noncomputable def es_ref07_FewAll : List (Ent U) := [e_ref07_Few]
noncomputable def h_ref07_FewAll (n : Nat) : (List S_api_Msg) × Int × Unit → Option ((Bool × Unit) × Unit) := runFn (U := U) Tryz.prog es_ref07_FewAll ad_ref07_FewAll n Tryz.f15 sg_ref07_FewAll
noncomputable def g_ref07_FewAll : (List S_api_Msg) × Int × Unit → Option ((Bool × Unit) × Unit) := h_ref07_FewAll fuel
noncomputable def e_ref07_FewAll : Ent U := ⟨15, sg_ref07_FewAll, g_ref07_FewAll⟩
noncomputable def fn_ref07_FewAll := lp (tab es_ref07_FewAll) ad_ref07_FewAll Tryz.f15 0 sg_ref07_FewAll
noncomputable def L_ref07_FewAll_0 (n m : Nat) (a0 : List S_api_Msg) (x5 : Int) : Option ((Bool × Unit) × Unit) :=
  fn_ref07_FewAll n [.r, .r, .l, .r, .l, .at m] [(0, .one (.sl 29 a0 .ro)), (5, .one (.int .i64 x5))]
def sg_octet_Zero : Sig τ := ⟨[(false, T_string)], [T_bool]⟩
def ad_octet_Zero : Adv := ⟨15, [[0], [6, 7, 8], [6, 7, 8, 9], [4, 6, 7, 8], [6, 7, 8, 13], [2], [6, 7, 8], [2]], [], []⟩
noncomputable def es_octet_Zero : List (Ent U) := []
noncomputable def h_octet_Zero (n : Nat) : (List UInt8) × Unit → Option ((Bool × Unit) × Unit) := runFn (U := U) Tryz.prog es_octet_Zero ad_octet_Zero n Tryz.f134 sg_octet_Zero
noncomputable def g_octet_Zero : (List UInt8) × Unit → Option ((Bool × Unit) × Unit) := h_octet_Zero fuel
noncomputable def e_octet_Zero : Ent U := ⟨134, sg_octet_Zero, g_octet_Zero⟩
noncomputable def fn_octet_Zero := lp (tab es_octet_Zero) ad_octet_Zero Tryz.f134 0 sg_octet_Zero
noncomputable def L_octet_Zero_0 (n m : Nat) (a0 : List UInt8) (x8 : Int) : Option ((Bool × Unit) × Unit) :=
  fn_octet_Zero n [.r, .l, .r, .l, .at m] [(6, .one (.bs 5 a0 .app)), (7, .one (.int .i64 (a0.length : Int))), (8, .one (.int .i64 x8))]
def sg_internal_stringslite_HasPrefix : Sig τ := ⟨[(false, T_string), (false, T_string)], [T_bool]⟩
def ad_internal_stringslite_HasPrefix : Adv := ⟨18, [[0, 1], [4]], [], []⟩
noncomputable def es_internal_stringslite_HasPrefix : List (Ent U) := []
noncomputable def g_internal_stringslite_HasPrefix : (List UInt8) × (List UInt8) × Unit → Option ((Bool × Unit) × Unit) := runFn (U := U) Tryz.prog es_internal_stringslite_HasPrefix ad_internal_stringslite_HasPrefix 0 Tryz.f248 sg_internal_stringslite_HasPrefix
noncomputable def e_internal_stringslite_HasPrefix : Ent U := ⟨248, sg_internal_stringslite_HasPrefix, g_internal_stringslite_HasPrefix⟩
def sg_msg_strip : Sig τ := ⟨[(false, T_api_Msg)], [T_msg_plain]⟩
def ad_msg_strip : Adv := ⟨50, [[1, 2], [2]], [], []⟩
noncomputable def es_msg_strip : List (Ent U) := []
noncomputable def g_msg_strip : S_api_Msg × Unit → Option ((S_msg_plain × Unit) × Unit) := runFn (U := U) Tryz.prog es_msg_strip ad_msg_strip 0 Tryz.f184 sg_msg_strip
noncomputable def e_msg_strip : Ent U := ⟨184, sg_msg_strip, g_msg_strip⟩
def sg_msg_Bare : Sig τ := ⟨[(false, T_api_Msg)], [T_bool]⟩
def ad_msg_Bare : Adv := ⟨116, [[1], [1, 3], [1, 3, 4, 5], [1, 3, 4, 5, 13], [2], [1, 3, 4, 5, 13, 14], [1, 3, 4, 5, 13, 14], [1, 3, 4], [1, 3, 4, 25], [1, 3, 4], [1, 3, 4, 5], [1, 3, 4, 5, 13, 33], [1, 3, 4, 5], [1, 3, 4, 5, 13, 42], [1, 3, 4, 5], [1, 3, 4, 5, 13, 51], [1, 3, 4, 5], [1, 3, 4, 5, 13, 54], [1, 3, 4, 5, 13, 56], [1, 3, 4, 5], [1, 3, 4, 5, 13, 60], [1, 3, 4, 5], [1, 3, 4, 5, 13, 63], [1, 3, 4, 5], [1, 3, 4, 5, 13, 68], [1, 3, 4, 5], [1, 3, 4, 5, 13, 74], [1, 3, 4, 5], [1, 3, 4, 5, 13, 84], [1, 3, 4, 5], [1, 3, 4, 5, 13, 89], [1, 3, 4, 5], [1, 3, 4, 97], [1, 3, 4], [1, 3, 4, 5], [2]], [], []⟩
noncomputable def es_msg_Bare : List (Ent U) := [e_msg_strip]
noncomputable def g_msg_Bare : S_api_Msg × Unit → Option ((Bool × Unit) × Unit) := runFn (U := U) Tryz.prog es_msg_Bare ad_msg_Bare 0 Tryz.f113 sg_msg_Bare
noncomputable def e_msg_Bare : Ent U := ⟨113, sg_msg_Bare, g_msg_Bare⟩
def sg_rip_four : Sig τ := ⟨[(false, T_string)], [T_bool]⟩
def ad_rip_four : Adv := ⟨6, [[0], [2]], [], []⟩
noncomputable def es_rip_four : List (Ent U) := []
noncomputable def g_rip_four : (List UInt8) × Unit → Option ((Bool × Unit) × Unit) := runFn (U := U) Tryz.prog es_rip_four ad_rip_four 0 Tryz.f133 sg_rip_four
noncomputable def e_rip_four : Ent U := ⟨133, sg_rip_four, g_rip_four⟩
def sg_octet_Fits : Sig τ := ⟨[(false, T_int), (false, T_int)], [T_bool]⟩
def ad_octet_Fits : Adv := ⟨23, [[0, 1], [4]], [], []⟩
noncomputable def es_octet_Fits : List (Ent U) := []
noncomputable def g_octet_Fits : Int × Int × Unit → Option ((Bool × Unit) × Unit) := runFn (U := U) Tryz.prog es_octet_Fits ad_octet_Fits 0 Tryz.f135 sg_octet_Fits
noncomputable def e_octet_Fits : Ent U := ⟨135, sg_octet_Fits, g_octet_Fits⟩
def sg_bits_Keep : Sig τ := ⟨[(false, T_string), (false, T_int)], [T_string]⟩
def ad_bits_Keep : Adv := ⟨40, [[0, 1], [0, 1, 11], [4], [0, 1, 5], [0, 1, 5, 17], [4], [0, 1, 5, 6], [0, 1, 5, 6], [5], [4]], [], []⟩
noncomputable def es_bits_Keep : List (Ent U) := []
noncomputable def g_bits_Keep : (List UInt8) × Int × Unit → Option (((List UInt8) × Unit) × Unit) := runFn (U := U) Tryz.prog es_bits_Keep ad_bits_Keep 0 Tryz.f245 sg_bits_Keep
noncomputable def e_bits_Keep : Ent U := ⟨245, sg_bits_Keep, g_bits_Keep⟩
def sg_bits_Clean : Sig τ := ⟨[(false, T_string), (false, T_int)], [T_bool]⟩
def ad_bits_Clean : Adv := ⟨10, [[0, 1], [4]], [], []⟩
noncomputable def es_bits_Clean : List (Ent U) := [e_bits_Keep]
noncomputable def g_bits_Clean : (List UInt8) × Int × Unit → Option ((Bool × Unit) × Unit) := runFn (U := U) Tryz.prog es_bits_Clean ad_bits_Clean 0 Tryz.f202 sg_bits_Clean
noncomputable def e_bits_Clean : Ent U := ⟨202, sg_bits_Clean, g_bits_Clean⟩
def sg_prefix_Right : Sig τ := ⟨[(false, T_string), (false, T_int)], [T_bool]⟩
def ad_prefix_Right : Adv := ⟨29, [[0, 1], [0, 1, 5], [4]], [], []⟩
noncomputable def es_prefix_Right : List (Ent U) := [e_bits_Clean]
noncomputable def g_prefix_Right : (List UInt8) × Int × Unit → Option ((Bool × Unit) × Unit) := runFn (U := U) Tryz.prog es_prefix_Right ad_prefix_Right 0 Tryz.f136 sg_prefix_Right
noncomputable def e_prefix_Right : Ent U := ⟨136, sg_prefix_Right, g_prefix_Right⟩
def sg_rip_Right : Sig τ := ⟨[(false, T_api_Msg)], [T_bool]⟩
def ad_rip_Right : Adv := ⟨129, [[1], [1, 3], [2], [1, 24], [2], [1, 43], [2], [1, 58], [2], [1, 88], [2], [1, 102], [2], [2]], [], []⟩
noncomputable def es_rip_Right : List (Ent U) := [e_msg_Bare, e_rip_four, e_octet_Zero, e_octet_Fits, e_prefix_Right]
noncomputable def g_rip_Right : S_api_Msg × Unit → Option ((Bool × Unit) × Unit) := runFn (U := U) Tryz.prog es_rip_Right ad_rip_Right 0 Tryz.f70 sg_rip_Right
noncomputable def e_rip_Right : Ent U := ⟨70, sg_rip_Right, g_rip_Right⟩
def sg_mask_Of : Sig τ := ⟨[(false, T_int)], [T_string, T_bool]⟩
def ad_mask_Of : Adv := ⟨28, [[0], [0, 10], [2, 3], [4], [2, 3]], [], []⟩
noncomputable def es_mask_Of : List (Ent U) := []
noncomputable def g_mask_Of : Int × Unit → Option (((List UInt8) × Bool × Unit) × Unit) := runFn (U := U) Tryz.prog es_mask_Of ad_mask_Of 0 Tryz.f207 sg_mask_Of
noncomputable def e_mask_Of : Ent U := ⟨207, sg_mask_Of, g_mask_Of⟩
def sg_octet_Zeros : Sig τ := ⟨[(false, T_int)], [T_string]⟩
def ad_octet_Zeros : Adv := ⟨7, [[0], [2]], [], []⟩
noncomputable def es_octet_Zeros : List (Ent U) := []
noncomputable def g_octet_Zeros : Int × Unit → Option (((List UInt8) × Unit) × Unit) := runFn (U := U) Tryz.prog es_octet_Zeros ad_octet_Zeros 0 Tryz.f144 sg_octet_Zeros
noncomputable def e_octet_Zeros : Ent U := ⟨144, sg_octet_Zeros, g_octet_Zeros⟩
def sg_strings_HasPrefix : Sig τ := ⟨[(false, T_string), (false, T_string)], [T_bool]⟩
def ad_strings_HasPrefix : Adv := ⟨8, [[0, 1], [4]], [], []⟩
noncomputable def es_strings_HasPrefix : List (Ent U) := [e_internal_stringslite_HasPrefix]
noncomputable def g_strings_HasPrefix : (List UInt8) × (List UInt8) × Unit → Option ((Bool × Unit) × Unit) := runFn (U := U) Tryz.prog es_strings_HasPrefix ad_strings_HasPrefix 0 Tryz.f209 sg_strings_HasPrefix
noncomputable def e_strings_HasPrefix : Ent U := ⟨209, sg_strings_HasPrefix, g_strings_HasPrefix⟩
def sg_addr_Link : Sig τ := ⟨[(false, T_string)], [T_bool]⟩
def ad_addr_Link : Adv := ⟨10, [[0], [2]], [], []⟩
noncomputable def es_addr_Link : List (Ent U) := [e_strings_HasPrefix]
noncomputable def g_addr_Link : (List UInt8) × Unit → Option ((Bool × Unit) × Unit) := runFn (U := U) Tryz.prog es_addr_Link ad_addr_Link 0 Tryz.f145 sg_addr_Link
noncomputable def e_addr_Link : Ent U := ⟨145, sg_addr_Link, g_addr_Link⟩
def sg_msg_Bytes : Sig τ := ⟨[(false, T_list_api_Sub)], [T_int]⟩
def ad_msg_Bytes : Adv := ⟨20, [[0], [0, 3], [3, 6, 7, 8], [3, 6, 7, 8, 9], [3, 5, 6, 7, 8], [3, 6, 7, 8], [3, 6, 7, 8], [2]], [], []⟩
noncomputable def es_msg_Bytes : List (Ent U) := []
noncomputable def h_msg_Bytes (n : Nat) : (List S_api_Sub) × Unit → Option ((Int × Unit) × Unit) := runFn (U := U) Tryz.prog es_msg_Bytes ad_msg_Bytes n Tryz.f226 sg_msg_Bytes
noncomputable def g_msg_Bytes : (List S_api_Sub) × Unit → Option ((Int × Unit) × Unit) := h_msg_Bytes fuel
noncomputable def e_msg_Bytes : Ent U := ⟨226, sg_msg_Bytes, g_msg_Bytes⟩
noncomputable def fn_msg_Bytes := lp (tab es_msg_Bytes) ad_msg_Bytes Tryz.f226 0 sg_msg_Bytes
noncomputable def L_msg_Bytes_0 (n m : Nat) (a0 : List S_api_Sub) (x3 : Int) (x8 : Int) : Option ((Int × Unit) × Unit) :=
  fn_msg_Bytes n [.r, .r, .l, .r, .l, .at m] [(3, .one (.int .i64 x3)), (6, .one (.sl 89 a0 .ro)), (7, .one (.int .i64 (a0.length : Int))), (8, .one (.int .i64 x8))]
def sg_ctx_Family : Sig τ := ⟨[(false, T_int)], [T_int]⟩
def ad_ctx_Family : Adv := ⟨9, [[0], [3], [3, 4], [2], [3, 6], [6], [2], [2]], [], []⟩
noncomputable def es_ctx_Family : List (Ent U) := []
noncomputable def g_ctx_Family : Int × Unit → Option ((Int × Unit) × Unit) := runFn (U := U) Tryz.prog es_ctx_Family ad_ctx_Family 0 Tryz.f116 sg_ctx_Family
noncomputable def e_ctx_Family : Ent U := ⟨116, sg_ctx_Family, g_ctx_Family⟩
def sg_route_shapes : Sig τ := ⟨[], [T_4_route_shape]⟩
def ad_route_shapes : Adv := ⟨6, [[0], [0]], [], []⟩
noncomputable def es_route_shapes : List (Ent U) := []
noncomputable def g_route_shapes : Unit → Option ((S_4_route_shape × Unit) × Unit) := runFn (U := U) Tryz.prog es_route_shapes ad_route_shapes 0 Tryz.f227 sg_route_shapes
noncomputable def e_route_shapes : Ent U := ⟨227, sg_route_shapes, g_route_shapes⟩
def sg_prefix_Least : Sig τ := ⟨[(false, T_int)], [T_int]⟩
def ad_prefix_Least : Adv := ⟨7, [[0], [2]], [], []⟩
noncomputable def es_prefix_Least : List (Ent U) := []
noncomputable def g_prefix_Least : Int × Unit → Option ((Int × Unit) × Unit) := runFn (U := U) Tryz.prog es_prefix_Least ad_prefix_Least 0 Tryz.f261 sg_prefix_Least
noncomputable def e_prefix_Least : Ent U := ⟨261, sg_prefix_Least, g_prefix_Least⟩
def ad_suite_of : Adv := ⟨18, [[0, 2], [2, 4], [2, 4, 5], [2, 3], [2, 4, 8], [2, 3], [2, 4, 11], [2, 3], [2, 14], [2, 3], [2, 3]], [], [999999]⟩
def sg_auth_Put : Sig τ := ⟨[(false, T_string)], [T_string, T_bool]⟩
def ad_auth_Put : Adv := ⟨9, [[0], [0, 6], [2, 3], [2, 3]], [], []⟩
noncomputable def es_auth_Put : List (Ent U) := []
noncomputable def g_auth_Put : (List UInt8) × Unit → Option (((List UInt8) × Bool × Unit) × Unit) := runFn (U := U) Tryz.prog es_auth_Put ad_auth_Put 0 Tryz.f141 sg_auth_Put
noncomputable def e_auth_Put : Ent U := ⟨141, sg_auth_Put, g_auth_Put⟩
def sg_rip_together : Sig τ := ⟨[(false, T_api_Msg), (false, T_api_Msg)], [T_bool]⟩
def ad_rip_together : Adv := ⟨34, [[2, 3], [4]], [], []⟩
noncomputable def es_rip_together : List (Ent U) := []
noncomputable def g_rip_together : S_api_Msg × S_api_Msg × Unit → Option ((Bool × Unit) × Unit) := runFn (U := U) Tryz.prog es_rip_together ad_rip_together 0 Tryz.f142 sg_rip_together
noncomputable def e_rip_together : Ent U := ⟨142, sg_rip_together, g_rip_together⟩
def sg_octet_Put : Sig τ := ⟨[(false, T_int), (false, T_int)], [T_string, T_bool]⟩
def ad_octet_Put : Adv := ⟨29, [[0, 1], [0, 1, 11], [4, 5], [0, 1, 6], [0, 6, 7], [0, 6, 7, 17], [0, 6, 7], [0, 6, 7], [0, 6, 7], [4, 5]], [], []⟩
noncomputable def es_octet_Put : List (Ent U) := [e_octet_Fits]
noncomputable def h_octet_Put (n : Nat) : Int × Int × Unit → Option (((List UInt8) × Bool × Unit) × Unit) := runFn (U := U) Tryz.prog es_octet_Put ad_octet_Put n Tryz.f121 sg_octet_Put
noncomputable def g_octet_Put : Int × Int × Unit → Option (((List UInt8) × Bool × Unit) × Unit) := h_octet_Put fuel
noncomputable def e_octet_Put : Ent U := ⟨121, sg_octet_Put, g_octet_Put⟩
noncomputable def fn_octet_Put := lp (tab es_octet_Put) ad_octet_Put Tryz.f121 0 sg_octet_Put
noncomputable def L_octet_Put_0 (n m : Nat) (x0 : Int) (x7 : Int) (x13 : List UInt8) : Option (((List UInt8) × Bool × Unit) × Unit) :=
  fn_octet_Put n [.r, .r, .r, .l, .r, .l, .at m] [(0, .one (.int .i64 x0)), (6, .one (.sref 13)), (7, .one (.int .i64 x7)), (13, .bblk 5 x13 true)]
def sg_entry_Put : Sig τ := ⟨[(false, T_api_Entry)], [T_string, T_bool]⟩
def ad_entry_Put : Adv := ⟨76, [[1], [1, 43], [2, 3], [1, 4], [1, 4, 6], [1, 4, 6, 8], [2, 3]], [], []⟩
noncomputable def es_entry_Put : List (Ent U) := [e_octet_Fits, e_octet_Put]
noncomputable def g_entry_Put : S_api_Entry × Unit → Option (((List UInt8) × Bool × Unit) × Unit) := runFn (U := U) Tryz.prog es_entry_Put ad_entry_Put 0 Tryz.f208 sg_entry_Put
noncomputable def e_entry_Put : Ent U := ⟨208, sg_entry_Put, g_entry_Put⟩
def sg_rip_line : Sig τ := ⟨[(false, T_api_Msg)], [T_string]⟩
def ad_rip_line : Adv := ⟨39, [[1], [1, 3], [1, 3, 25], [3], [4], [2]], [], []⟩
noncomputable def es_rip_line : List (Ent U) := [e_octet_Zeros, e_mask_Of, e_entry_Put]
noncomputable def g_rip_line : S_api_Msg × Unit → Option (((List UInt8) × Unit) × Unit) := runFn (U := U) Tryz.prog es_rip_line ad_rip_line 0 Tryz.f143 sg_rip_line
noncomputable def e_rip_line : Ent U := ⟨143, sg_rip_line, g_rip_line⟩
def sg_rip_Encode : Sig τ := ⟨[(false, T_list_api_Msg)], [T_string, T_int, T_api_Errno]⟩
def ad_rip_Encode : Adv := ⟨84, [[0], [0, 13, 14, 15], [0, 13, 14, 15, 16], [0, 5, 6, 13, 14, 15], [0, 5, 13, 14, 15, 22], [2, 3, 4], [0, 13, 14, 15], [0, 27], [2, 3, 4], [0, 7], [0, 7, 8], [0, 7, 8, 9, 10], [0, 7, 8, 9, 47], [0, 7, 8], [0, 7, 8], [0, 7, 8, 53, 54, 55], [0, 7, 8, 53, 54, 55, 56], [0, 7, 8, 11, 12, 53, 54, 55], [0, 7, 8, 11, 12, 53, 54, 55, 60], [2, 3, 4], [0, 7, 8, 11, 12, 53, 54, 55, 65], [2, 3, 4], [0, 7, 8, 53, 54, 55], [0, 7, 8, 53, 54, 55], [2, 3, 4]], [48, 77], []⟩
noncomputable def es_rip_Encode : List (Ent U) := [e_rip_Right, e_auth_Put, e_rip_together, e_rip_line]
noncomputable def h_rip_Encode (n : Nat) : (List S_api_Msg) × Unit → Option (((List UInt8) × Int × Int × Unit) × Unit) := runFn (U := U) Tryz.prog es_rip_Encode ad_rip_Encode n Tryz.f72 sg_rip_Encode
noncomputable def g_rip_Encode : (List S_api_Msg) × Unit → Option (((List UInt8) × Int × Int × Unit) × Unit) := h_rip_Encode fuel
noncomputable def e_rip_Encode : Ent U := ⟨72, sg_rip_Encode, g_rip_Encode⟩
noncomputable def fn_rip_Encode := lp (tab es_rip_Encode) ad_rip_Encode Tryz.f72 0 sg_rip_Encode
noncomputable def L_rip_Encode_0 (n m : Nat) (a0 : List S_api_Msg) (x15 : Int) : Option (((List UInt8) × Int × Int × Unit) × Unit) :=
  fn_rip_Encode n [.r, .l, .r, .l, .at m] [(0, .one (.sl 29 a0 .ro)), (13, .one (.sl 29 a0 .ro)), (14, .one (.int .i64 (a0.length : Int))), (15, .one (.int .i64 x15))]
noncomputable def L_rip_Encode_1 (n m : Nat) (a0 : List S_api_Msg) (x7 : Int) (x8 : List UInt8) (x55 : Int) : Option (((List UInt8) × Int × Int × Unit) × Unit) :=
  fn_rip_Encode n [.r, .r, .r, .r, .r, .r, .l, .r, .l, .at m] [(0, .one (.sl 29 a0 .ro)), (7, .one (.int .i64 x7)), (8, .one (.bs 5 x8 .app)), (53, .one (.sl 29 a0 .ro)), (54, .one (.int .i64 (a0.length : Int))), (55, .one (.int .i64 x55))]
def sg_ripng_Right : Sig τ := ⟨[(false, T_api_Msg)], [T_bool]⟩
def ad_ripng_Right : Adv := ⟨60, [[1], [1, 3], [2], [1, 28], [2], [2]], [], []⟩
noncomputable def es_ripng_Right : List (Ent U) := [e_msg_Bare, e_octet_Fits, e_prefix_Right, e_octet_Zeros, e_addr_Link]
noncomputable def g_ripng_Right : S_api_Msg × Unit → Option ((Bool × Unit) × Unit) := runFn (U := U) Tryz.prog es_ripng_Right ad_ripng_Right 0 Tryz.f73 sg_ripng_Right
noncomputable def e_ripng_Right : Ent U := ⟨73, sg_ripng_Right, g_ripng_Right⟩
def sg_rte_Put : Sig τ := ⟨[(false, T_api_Entry)], [T_string, T_bool]⟩
def ad_rte_Put : Adv := ⟨52, [[1], [1, 33], [2, 3], [2, 3]], [], []⟩
noncomputable def es_rte_Put : List (Ent U) := [e_octet_Fits]
noncomputable def g_rte_Put : S_api_Entry × Unit → Option (((List UInt8) × Bool × Unit) × Unit) := runFn (U := U) Tryz.prog es_rte_Put ad_rte_Put 0 Tryz.f249 sg_rte_Put
noncomputable def e_rte_Put : Ent U := ⟨249, sg_rte_Put, g_rte_Put⟩
def sg_ripng_writer_put : Sig τ := ⟨[(true, T_ripng_writer), (false, T_api_Entry)], []⟩
def ad_ripng_writer_put : Adv := ⟨20, [[0, 3], [0, 4], []], [15], []⟩
noncomputable def es_ripng_writer_put : List (Ent U) := [e_rte_Put]
noncomputable def g_ripng_writer_put : S_ripng_writer × S_api_Entry × Unit → Option ((Unit) × (S_ripng_writer × Unit)) := runFn (U := U) Tryz.prog es_ripng_writer_put ad_ripng_writer_put 0 Tryz.f211 sg_ripng_writer_put
noncomputable def e_ripng_writer_put : Ent U := ⟨211, sg_ripng_writer_put, g_ripng_writer_put⟩
def sg_ripng_writer_route : Sig τ := ⟨[(true, T_ripng_writer), (false, T_api_Msg)], []⟩
def ad_ripng_writer_route : Adv := ⟨32, [[0, 3], [0, 3, 10], [0, 3], [0, 3], []], [], []⟩
noncomputable def es_ripng_writer_route : List (Ent U) := [e_ripng_writer_put]
noncomputable def g_ripng_writer_route : S_ripng_writer × S_api_Msg × Unit → Option ((Unit) × (S_ripng_writer × Unit)) := runFn (U := U) Tryz.prog es_ripng_writer_route ad_ripng_writer_route 0 Tryz.f149 sg_ripng_writer_route
noncomputable def e_ripng_writer_route : Ent U := ⟨149, sg_ripng_writer_route, g_ripng_writer_route⟩
def sg_ripng_Encode : Sig τ := ⟨[(false, T_list_api_Msg)], [T_string, T_int, T_api_Errno]⟩
def ad_ripng_Encode : Adv := ⟨65, [[0], [0, 10, 11, 12], [0, 10, 11, 12, 13], [0, 5, 6, 10, 11, 12], [0, 5, 10, 11, 12, 19], [2, 3, 4], [0, 10, 11, 12], [0, 24], [2, 3, 4], [0, 7], [0, 7, 34, 35, 36], [0, 7, 34, 35, 36, 37], [0, 7, 8, 9, 34, 35, 36], [0, 7, 8, 9, 34, 35, 36, 47], [2, 3, 4], [0, 7, 8, 34, 35, 36], [0, 7, 8, 34, 35, 36, 57], [2, 3, 4], [0, 7, 34, 35, 36], [2, 3, 4]], [], []⟩
noncomputable def es_ripng_Encode : List (Ent U) := [e_ripng_Right, e_octet_Zeros, e_ripng_writer_route]
noncomputable def h_ripng_Encode (n : Nat) : (List S_api_Msg) × Unit → Option (((List UInt8) × Int × Int × Unit) × Unit) := runFn (U := U) Tryz.prog es_ripng_Encode ad_ripng_Encode n Tryz.f75 sg_ripng_Encode
noncomputable def g_ripng_Encode : (List S_api_Msg) × Unit → Option (((List UInt8) × Int × Int × Unit) × Unit) := h_ripng_Encode fuel
noncomputable def e_ripng_Encode : Ent U := ⟨75, sg_ripng_Encode, g_ripng_Encode⟩
noncomputable def fn_ripng_Encode := lp (tab es_ripng_Encode) ad_ripng_Encode Tryz.f75 0 sg_ripng_Encode
noncomputable def L_ripng_Encode_0 (n m : Nat) (a0 : List S_api_Msg) (x12 : Int) : Option (((List UInt8) × Int × Int × Unit) × Unit) :=
  fn_ripng_Encode n [.r, .l, .r, .l, .at m] [(0, .one (.sl 29 a0 .ro)), (10, .one (.sl 29 a0 .ro)), (11, .one (.int .i64 (a0.length : Int))), (12, .one (.int .i64 x12))]
noncomputable def L_ripng_Encode_1 (n m : Nat) (a0 : List S_api_Msg) (x33_0 : List UInt8) (x33_1 : List UInt8) (x36 : Int) : Option (((List UInt8) × Int × Int × Unit) × Unit) :=
  fn_ripng_Encode n [.r, .r, .r, .r, .l, .r, .l, .at m] [(0, .one (.sl 29 a0 .ro)), (7, .one (.ref 33 0)), (33, .box [.bs 5 x33_0 .app, .str x33_1]), (34, .one (.sl 29 a0 .ro)), (35, .one (.int .i64 (a0.length : Int))), (36, .one (.int .i64 x36))]
def sg_msg_Subs : Sig τ := ⟨[(false, T_list_api_Sub), (false, T_int), (false, T_int)], [T_bool]⟩
def ad_msg_Subs : Adv := ⟨32, [[0, 1, 2], [1, 2, 9, 10, 11], [1, 2, 9, 10, 11, 12], [1, 2, 8, 9, 10, 11], [1, 2, 9, 10, 11, 30], [6], [1, 2, 9, 10, 11], [6]], [], []⟩
noncomputable def es_msg_Subs : List (Ent U) := []
noncomputable def h_msg_Subs (n : Nat) : (List S_api_Sub) × Int × Int × Unit → Option ((Bool × Unit) × Unit) := runFn (U := U) Tryz.prog es_msg_Subs ad_msg_Subs n Tryz.f225 sg_msg_Subs
noncomputable def g_msg_Subs : (List S_api_Sub) × Int × Int × Unit → Option ((Bool × Unit) × Unit) := h_msg_Subs fuel
noncomputable def e_msg_Subs : Ent U := ⟨225, sg_msg_Subs, g_msg_Subs⟩
noncomputable def fn_msg_Subs := lp (tab es_msg_Subs) ad_msg_Subs Tryz.f225 0 sg_msg_Subs
noncomputable def L_msg_Subs_0 (n m : Nat) (a1 : Int) (a2 : Int) (a0 : List S_api_Sub) (x11 : Int) : Option ((Bool × Unit) × Unit) :=
  fn_msg_Subs n [.r, .l, .r, .l, .at m] [(1, .one (.int .i64 a1)), (2, .one (.int .i64 a2)), (9, .one (.sl 89 a0 .ro)), (10, .one (.int .i64 (a0.length : Int))), (11, .one (.int .i64 x11))]
def sg_ext_Right : Sig τ := ⟨[(false, T_list_api_Sub)], [T_bool]⟩
def ad_ext_Right : Adv := ⟨5, [[0], [2]], [], []⟩
noncomputable def es_ext_Right : List (Ent U) := [e_msg_Subs]
noncomputable def g_ext_Right : (List S_api_Sub) × Unit → Option ((Bool × Unit) × Unit) := runFn (U := U) Tryz.prog es_ext_Right ad_ext_Right 0 Tryz.f212 sg_ext_Right
noncomputable def e_ext_Right : Ent U := ⟨212, sg_ext_Right, g_ext_Right⟩
def sg_rreq_Right : Sig τ := ⟨[(false, T_api_Msg)], [T_bool]⟩
def ad_rreq_Right : Adv := ⟨59, [[1], [1, 34], [2], [1, 41, 42, 43], [1, 41, 42, 43, 44], [1, 4, 41, 42, 43], [1, 41, 42, 43, 49], [2], [1, 41, 42, 43], [2]], [], []⟩
noncomputable def es_rreq_Right : List (Ent U) := [e_msg_Bare, e_octet_Fits, e_ext_Right]
noncomputable def h_rreq_Right (n : Nat) : S_api_Msg × Unit → Option ((Bool × Unit) × Unit) := runFn (U := U) Tryz.prog es_rreq_Right ad_rreq_Right n Tryz.f150 sg_rreq_Right
noncomputable def g_rreq_Right : S_api_Msg × Unit → Option ((Bool × Unit) × Unit) := h_rreq_Right fuel
noncomputable def e_rreq_Right : Ent U := ⟨150, sg_rreq_Right, g_rreq_Right⟩
noncomputable def fn_rreq_Right := lp (tab es_rreq_Right) ad_rreq_Right Tryz.f150 0 sg_rreq_Right
noncomputable def L_rreq_Right_0 (n m : Nat) (a0 : S_api_Msg) (x41 : List Int) (x42 : Int) (x43 : Int) : Option ((Bool × Unit) × Unit) :=
  fn_rreq_Right n [.r, .r, .l, .r, .l, .at m] [(1, .box [.int .i64 a0.kind, .int .i64 a0.cmd, .int .i64 a0.ver, .str a0.auth, .int .i64 a0.family, .int .i64 a0.ae, .str a0.prefix_, .int .i64 a0.plen, .int .i64 a0.tag, .str a0.next, .int .i64 a0.metric, .str a0.id, .int .i64 a0.seq, .int .i64 a0.seq2, .int .i64 a0.interval, .int .i64 a0.flags, .int .i64 a0.hops, .int .i64 a0.nonce, .int .i64 a0.cost, .str a0.addr, .str a0.orig, .sl 87 a0.list .ro, .int .i64 a0.type_, .str a0.data, .sl 89 a0.subs .ro]), (41, .one (.sl 3 x41 .app)), (42, .one (.int .i64 x42)), (43, .one (.int .i64 x43))]
def sg_rrep_Right : Sig τ := ⟨[(false, T_api_Msg)], [T_bool]⟩
def ad_rrep_Right : Adv := ⟨63, [[1], [1, 11], [2], [1, 13], [1, 13, 14], [2], [1, 16], [2], [2]], [], []⟩
noncomputable def es_rrep_Right : List (Ent U) := [e_msg_Bare, e_ext_Right, e_octet_Fits]
noncomputable def g_rrep_Right : S_api_Msg × Unit → Option ((Bool × Unit) × Unit) := runFn (U := U) Tryz.prog es_rrep_Right ad_rrep_Right 0 Tryz.f151 sg_rrep_Right
noncomputable def e_rrep_Right : Ent U := ⟨151, sg_rrep_Right, g_rrep_Right⟩
def sg_rerr_Right : Sig τ := ⟨[(false, T_api_Msg)], [T_bool]⟩
def ad_rerr_Right : Adv := ⟨56, [[1], [1, 34], [2], [1, 36, 37, 38], [1, 36, 37, 38, 39], [1, 4, 36, 37, 38], [1, 36, 37, 38, 51], [2], [1, 36, 37, 38], [2]], [], []⟩
noncomputable def es_rerr_Right : List (Ent U) := [e_msg_Bare, e_octet_Fits, e_ext_Right]
noncomputable def h_rerr_Right (n : Nat) : S_api_Msg × Unit → Option ((Bool × Unit) × Unit) := runFn (U := U) Tryz.prog es_rerr_Right ad_rerr_Right n Tryz.f152 sg_rerr_Right
noncomputable def g_rerr_Right : S_api_Msg × Unit → Option ((Bool × Unit) × Unit) := h_rerr_Right fuel
noncomputable def e_rerr_Right : Ent U := ⟨152, sg_rerr_Right, g_rerr_Right⟩
noncomputable def fn_rerr_Right := lp (tab es_rerr_Right) ad_rerr_Right Tryz.f152 0 sg_rerr_Right
noncomputable def L_rerr_Right_0 (n m : Nat) (a0 : S_api_Msg) (x38 : Int) : Option ((Bool × Unit) × Unit) :=
  fn_rerr_Right n [.r, .r, .l, .r, .l, .at m] [(1, .box [.int .i64 a0.kind, .int .i64 a0.cmd, .int .i64 a0.ver, .str a0.auth, .int .i64 a0.family, .int .i64 a0.ae, .str a0.prefix_, .int .i64 a0.plen, .int .i64 a0.tag, .str a0.next, .int .i64 a0.metric, .str a0.id, .int .i64 a0.seq, .int .i64 a0.seq2, .int .i64 a0.interval, .int .i64 a0.flags, .int .i64 a0.hops, .int .i64 a0.nonce, .int .i64 a0.cost, .str a0.addr, .str a0.orig, .sl 87 a0.list .ro, .int .i64 a0.type_, .str a0.data, .sl 89 a0.subs .ro]), (36, .one (.sl 87 a0.list .ro)), (37, .one (.int .i64 (a0.list.length : Int))), (38, .one (.int .i64 x38))]
def sg_aodv_Right : Sig τ := ⟨[(false, T_api_Msg)], [T_bool]⟩
def ad_aodv_Right : Adv := ⟨13, [[1], [2]], [], []⟩
noncomputable def es_aodv_Right : List (Ent U) := [e_rreq_Right, e_rrep_Right, e_rerr_Right]
noncomputable def g_aodv_Right : S_api_Msg × Unit → Option ((Bool × Unit) × Unit) := runFn (U := U) Tryz.prog es_aodv_Right ad_aodv_Right 0 Tryz.f76 sg_aodv_Right
noncomputable def e_aodv_Right : Ent U := ⟨76, sg_aodv_Right, g_aodv_Right⟩
def sg_ext_Put : Sig τ := ⟨[(false, T_list_api_Sub)], [T_string, T_bool]⟩
def ad_ext_Put : Adv := ⟨36, [[0], [0, 9], [2, 3], [0, 4], [4, 13, 14, 15], [4, 13, 14, 15, 16], [4, 6, 13, 14, 15], [4, 6, 13, 14, 15], [4, 13, 14, 15], [4, 13, 14, 15], [2, 3]], [19, 29], []⟩
noncomputable def es_ext_Put : List (Ent U) := [e_ext_Right, e_msg_Bytes]
noncomputable def h_ext_Put (n : Nat) : (List S_api_Sub) × Unit → Option (((List UInt8) × Bool × Unit) × Unit) := runFn (U := U) Tryz.prog es_ext_Put ad_ext_Put n Tryz.f216 sg_ext_Put
noncomputable def g_ext_Put : (List S_api_Sub) × Unit → Option (((List UInt8) × Bool × Unit) × Unit) := h_ext_Put fuel
noncomputable def e_ext_Put : Ent U := ⟨216, sg_ext_Put, g_ext_Put⟩
noncomputable def fn_ext_Put := lp (tab es_ext_Put) ad_ext_Put Tryz.f216 0 sg_ext_Put
noncomputable def L_ext_Put_0 (n m : Nat) (a0 : List S_api_Sub) (x4 : List UInt8) (x15 : Int) : Option (((List UInt8) × Bool × Unit) × Unit) :=
  fn_ext_Put n [.r, .r, .r, .l, .r, .l, .at m] [(4, .one (.bs 5 x4 .app)), (13, .one (.sl 89 a0 .ro)), (14, .one (.int .i64 (a0.length : Int))), (15, .one (.int .i64 x15))]
def sg_rreq_word : Sig τ := ⟨[(false, T_int)], [T_string]⟩
def ad_rreq_word : Adv := ⟨11, [[0], [3], [2]], [], []⟩
noncomputable def es_rreq_word : List (Ent U) := [e_octet_Put]
noncomputable def g_rreq_word : Int × Unit → Option (((List UInt8) × Unit) × Unit) := runFn (U := U) Tryz.prog es_rreq_word ad_rreq_word 0 Tryz.f217 sg_rreq_word
noncomputable def e_rreq_word : Ent U := ⟨217, sg_rreq_word, g_rreq_word⟩
def sg_rreq_Put : Sig τ := ⟨[(false, T_api_Msg)], [T_string, T_bool]⟩
def ad_rreq_Put : Adv := ⟨46, [[1], [1, 9], [2, 3], [1, 4], [1, 4, 6], [2, 3]], [], []⟩
noncomputable def es_rreq_Put : List (Ent U) := [e_rreq_Right, e_ext_Put, e_rreq_word]
noncomputable def g_rreq_Put : S_api_Msg × Unit → Option (((List UInt8) × Bool × Unit) × Unit) := runFn (U := U) Tryz.prog es_rreq_Put ad_rreq_Put 0 Tryz.f154 sg_rreq_Put
noncomputable def e_rreq_Put : Ent U := ⟨154, sg_rreq_Put, g_rreq_Put⟩
def sg_rrep_Put : Sig τ := ⟨[(false, T_api_Msg)], [T_string, T_bool]⟩
def ad_rrep_Put : Adv := ⟨60, [[1], [1, 12], [2, 3], [1, 4], [1, 4, 21], [2, 3], [1, 4, 6], [1, 4, 6, 8], [2, 3]], [], []⟩
noncomputable def es_rrep_Put : List (Ent U) := [e_rrep_Right, e_ext_Put, e_octet_Put]
noncomputable def g_rrep_Put : S_api_Msg × Unit → Option (((List UInt8) × Bool × Unit) × Unit) := runFn (U := U) Tryz.prog es_rrep_Put ad_rrep_Put 0 Tryz.f155 sg_rrep_Put
noncomputable def e_rrep_Put : Ent U := ⟨155, sg_rrep_Put, g_rrep_Put⟩
def sg_rerr_Put : Sig τ := ⟨[(false, T_api_Msg)], [T_string, T_bool]⟩
def ad_rerr_Put : Adv := ⟨54, [[1], [1, 13], [2, 3], [1, 4], [1, 4, 24, 25, 26], [1, 4, 24, 25, 26, 27], [1, 4, 6, 24, 25, 26], [1, 4, 6, 7, 24, 25, 26], [1, 4, 7, 24, 25, 26], [1, 4, 24, 25, 26], [1, 4, 24, 25, 26], [4, 9], [2, 3]], [36, 40], []⟩
noncomputable def es_rerr_Put : List (Ent U) := [e_rerr_Right, e_octet_Put, e_ext_Put]
noncomputable def h_rerr_Put (n : Nat) : S_api_Msg × Unit → Option (((List UInt8) × Bool × Unit) × Unit) := runFn (U := U) Tryz.prog es_rerr_Put ad_rerr_Put n Tryz.f156 sg_rerr_Put
noncomputable def g_rerr_Put : S_api_Msg × Unit → Option (((List UInt8) × Bool × Unit) × Unit) := h_rerr_Put fuel
noncomputable def e_rerr_Put : Ent U := ⟨156, sg_rerr_Put, g_rerr_Put⟩
noncomputable def fn_rerr_Put := lp (tab es_rerr_Put) ad_rerr_Put Tryz.f156 0 sg_rerr_Put
noncomputable def L_rerr_Put_0 (n m : Nat) (a0 : S_api_Msg) (x4 : List UInt8) (x26 : Int) : Option (((List UInt8) × Bool × Unit) × Unit) :=
  fn_rerr_Put n [.r, .r, .r, .l, .r, .l, .at m] [(1, .box [.int .i64 a0.kind, .int .i64 a0.cmd, .int .i64 a0.ver, .str a0.auth, .int .i64 a0.family, .int .i64 a0.ae, .str a0.prefix_, .int .i64 a0.plen, .int .i64 a0.tag, .str a0.next, .int .i64 a0.metric, .str a0.id, .int .i64 a0.seq, .int .i64 a0.seq2, .int .i64 a0.interval, .int .i64 a0.flags, .int .i64 a0.hops, .int .i64 a0.nonce, .int .i64 a0.cost, .str a0.addr, .str a0.orig, .sl 87 a0.list .ro, .int .i64 a0.type_, .str a0.data, .sl 89 a0.subs .ro]), (4, .one (.bs 5 x4 .app)), (24, .one (.sl 87 a0.list .ro)), (25, .one (.int .i64 (a0.list.length : Int))), (26, .one (.int .i64 x26))]
def sg_aodv_Encode : Sig τ := ⟨[(false, T_list_api_Msg)], [T_string, T_int, T_api_Errno]⟩
def ad_aodv_Encode : Adv := ⟨56, [[0], [0, 9, 10], [0, 9, 10, 11], [0, 5, 9, 10], [0, 5, 9, 10, 18], [2, 3, 4], [0, 9, 10], [0, 23], [2, 3, 4], [0, 26], [2, 3, 4], [0, 6, 7], [0, 6, 7, 35], [0, 6, 7], [0, 6, 44], [6], [6, 54], [2, 3, 4], [2, 3, 4]], [], []⟩
noncomputable def es_aodv_Encode : List (Ent U) := [e_aodv_Right, e_rreq_Put, e_rrep_Put, e_rerr_Put]
noncomputable def h_aodv_Encode (n : Nat) : (List S_api_Msg) × Unit → Option (((List UInt8) × Int × Int × Unit) × Unit) := runFn (U := U) Tryz.prog es_aodv_Encode ad_aodv_Encode n Tryz.f78 sg_aodv_Encode
noncomputable def g_aodv_Encode : (List S_api_Msg) × Unit → Option (((List UInt8) × Int × Int × Unit) × Unit) := h_aodv_Encode fuel
noncomputable def e_aodv_Encode : Ent U := ⟨78, sg_aodv_Encode, g_aodv_Encode⟩
noncomputable def fn_aodv_Encode := lp (tab es_aodv_Encode) ad_aodv_Encode Tryz.f78 0 sg_aodv_Encode
noncomputable def L_aodv_Encode_0 (n m : Nat) (a0 : List S_api_Msg) (x10 : Int) : Option (((List UInt8) × Int × Int × Unit) × Unit) :=
  fn_aodv_Encode n [.r, .l, .r, .l, .at m] [(0, .one (.sl 29 a0 .ro)), (9, .one (.int .i64 (a0.length : Int))), (10, .one (.int .i64 x10))]
def sg_sub_Right : Sig τ := ⟨[(false, T_list_api_Sub)], [T_bool]⟩
def ad_sub_Right : Adv := ⟨10, [[0], [2]], [], []⟩
noncomputable def es_sub_Right : List (Ent U) := [e_msg_Subs, e_msg_Bytes]
noncomputable def g_sub_Right : (List S_api_Sub) × Unit → Option ((Bool × Unit) × Unit) := runFn (U := U) Tryz.prog es_sub_Right ad_sub_Right 0 Tryz.f180 sg_sub_Right
noncomputable def e_sub_Right : Ent U := ⟨180, sg_sub_Right, g_sub_Right⟩
def sg_route_In : Sig τ := ⟨[(false, T_int), (false, T_string), (false, T_int)], [T_bool]⟩
def ad_route_In : Adv := ⟨47, [[0, 1, 2], [0, 1, 2, 13], [6], [0, 1, 2, 7], [6]], [], []⟩
noncomputable def es_route_In : List (Ent U) := [e_route_shapes, e_bits_Clean, e_addr_Link]
noncomputable def g_route_In : Int × (List UInt8) × Int × Unit → Option ((Bool × Unit) × Unit) := runFn (U := U) Tryz.prog es_route_In ad_route_In 0 Tryz.f181 sg_route_In
noncomputable def e_route_In : Ent U := ⟨181, sg_route_In, g_route_In⟩
def sg_addr_Family : Sig τ := ⟨[(false, T_string)], [T_int]⟩
def ad_addr_Family : Adv := ⟨9, [[0], [4], [4, 5], [2], [7], [2], [2]], [], []⟩
noncomputable def es_addr_Family : List (Ent U) := []
noncomputable def g_addr_Family : (List UInt8) × Unit → Option ((Int × Unit) × Unit) := runFn (U := U) Tryz.prog es_addr_Family ad_addr_Family 0 Tryz.f183 sg_addr_Family
noncomputable def e_addr_Family : Ent U := ⟨183, sg_addr_Family, g_addr_Family⟩
def sg_ctx_either : Sig τ := ⟨[(false, T_string), (false, T_bool)], [T_bool]⟩
def ad_ctx_either : Adv := ⟨10, [[0, 1], [4]], [], []⟩
noncomputable def es_ctx_either : List (Ent U) := []
noncomputable def g_ctx_either : (List UInt8) × Bool × Unit → Option ((Bool × Unit) × Unit) := runFn (U := U) Tryz.prog es_ctx_either ad_ctx_either 0 Tryz.f182 sg_ctx_either
noncomputable def e_ctx_either : Ent U := ⟨182, sg_ctx_either, g_ctx_either⟩
def sg_ctx_Right : Sig τ := ⟨[(false, T_api_Msg)], [T_bool]⟩
def ad_ctx_Right : Adv := ⟨76, [[1], [1, 3], [2], [1, 28], [2], [1, 45], [2], [2]], [], []⟩
noncomputable def es_ctx_Right : List (Ent U) := [e_msg_Bare, e_sub_Right, e_route_In, e_octet_Fits, e_addr_Family, e_ctx_Family, e_ctx_either]
noncomputable def g_ctx_Right : S_api_Msg × Unit → Option ((Bool × Unit) × Unit) := runFn (U := U) Tryz.prog es_ctx_Right ad_ctx_Right 0 Tryz.f111 sg_ctx_Right
noncomputable def e_ctx_Right : Ent U := ⟨111, sg_ctx_Right, g_ctx_Right⟩
def sg_route_Right : Sig τ := ⟨[(false, T_api_Msg)], [T_bool]⟩
def ad_route_Right : Adv := ⟨52, [[1], [1, 21], [2], [1, 23], [1, 23, 24], [2], [1, 26], [2], [2]], [], []⟩
noncomputable def es_route_Right : List (Ent U) := [e_msg_Bare, e_sub_Right, e_route_In, e_octet_Fits]
noncomputable def g_route_Right : S_api_Msg × Unit → Option ((Bool × Unit) × Unit) := runFn (U := U) Tryz.prog es_route_Right ad_route_Right 0 Tryz.f112 sg_route_Right
noncomputable def e_route_Right : Ent U := ⟨112, sg_route_Right, g_route_Right⟩
def sg_field_address : Sig τ := ⟨[(false, T_int), (false, T_string)], [T_bool]⟩
def ad_field_address : Adv := ⟨26, [[0, 1], [0, 1, 5], [0, 1, 5, 6], [4], [0, 1, 5, 10], [4], [0, 1, 15], [4], [4]], [], []⟩
noncomputable def es_field_address : List (Ent U) := [e_addr_Family, e_addr_Link]
noncomputable def g_field_address : Int × (List UInt8) × Unit → Option ((Bool × Unit) × Unit) := runFn (U := U) Tryz.prog es_field_address ad_field_address 0 Tryz.f185 sg_field_address
noncomputable def e_field_address : Ent U := ⟨185, sg_field_address, g_field_address⟩
def sg_field_Right : Sig τ := ⟨[(false, T_api_Msg)], [T_bool]⟩
def ad_field_Right : Adv := ⟨57, [[1], [1, 13, 14, 15], [1, 13, 14, 15, 16], [1, 4, 13, 14, 15], [1, 13, 14, 15, 21], [2], [1, 13, 14, 15], [1, 31], [2], [1, 33], [1, 33, 34], [1, 33, 34], [2], [1, 37], [2], [2]], [], []⟩
noncomputable def es_field_Right : List (Ent U) := [e_octet_Fits, e_msg_Bare, e_sub_Right, e_field_address]
noncomputable def h_field_Right (n : Nat) : S_api_Msg × Unit → Option ((Bool × Unit) × Unit) := runFn (U := U) Tryz.prog es_field_Right ad_field_Right n Tryz.f114 sg_field_Right
noncomputable def g_field_Right : S_api_Msg × Unit → Option ((Bool × Unit) × Unit) := h_field_Right fuel
noncomputable def e_field_Right : Ent U := ⟨114, sg_field_Right, g_field_Right⟩
noncomputable def fn_field_Right := lp (tab es_field_Right) ad_field_Right Tryz.f114 0 sg_field_Right
noncomputable def L_field_Right_0 (n m : Nat) (a0 : S_api_Msg) (x13 : List Int) (x14 : Int) (x15 : Int) : Option ((Bool × Unit) × Unit) :=
  fn_field_Right n [.r, .l, .r, .l, .at m] [(1, .box [.int .i64 a0.kind, .int .i64 a0.cmd, .int .i64 a0.ver, .str a0.auth, .int .i64 a0.family, .int .i64 a0.ae, .str a0.prefix_, .int .i64 a0.plen, .int .i64 a0.tag, .str a0.next, .int .i64 a0.metric, .str a0.id, .int .i64 a0.seq, .int .i64 a0.seq2, .int .i64 a0.interval, .int .i64 a0.flags, .int .i64 a0.hops, .int .i64 a0.nonce, .int .i64 a0.cost, .str a0.addr, .str a0.orig, .sl 87 a0.list .ro, .int .i64 a0.type_, .str a0.data, .sl 89 a0.subs .ro]), (13, .one (.sl 3 x13 .app)), (14, .one (.int .i64 x14)), (15, .one (.int .i64 x15))]
def sg_lean_Right : Sig τ := ⟨[(false, T_api_Msg)], [T_bool]⟩
def ad_lean_Right : Adv := ⟨36, [[1], [1, 4], [1, 4, 5], [2], [1, 4, 9], [1, 4, 9], [2], [1, 14], [2], [2]], [], []⟩
noncomputable def es_lean_Right : List (Ent U) := [e_ctx_Right, e_route_Right, e_msg_Bare, e_field_Right]
noncomputable def g_lean_Right : S_api_Msg × Unit → Option ((Bool × Unit) × Unit) := runFn (U := U) Tryz.prog es_lean_Right ad_lean_Right 0 Tryz.f57 sg_lean_Right
noncomputable def e_lean_Right : Ent U := ⟨57, sg_lean_Right, g_lean_Right⟩
def sg_frame_Put : Sig τ := ⟨[(false, T_int), (false, T_string)], [T_string, T_bool]⟩
def ad_frame_Put : Adv := ⟨26, [[0, 1], [0, 1, 16], [4, 5], [4, 5]], [], []⟩
noncomputable def es_frame_Put : List (Ent U) := []
noncomputable def g_frame_Put : Int × (List UInt8) × Unit → Option (((List UInt8) × Bool × Unit) × Unit) := runFn (U := U) Tryz.prog es_frame_Put ad_frame_Put 0 Tryz.f187 sg_frame_Put
noncomputable def e_frame_Put : Ent U := ⟨187, sg_frame_Put, g_frame_Put⟩
def sg_sub_Put : Sig τ := ⟨[(false, T_list_api_Sub)], [T_string, T_bool]⟩
def ad_sub_Put : Adv := ⟨32, [[0], [0, 11], [2, 3], [0, 4], [4, 12, 13, 14], [4, 12, 13, 14, 15], [4, 6, 12, 13, 14], [4, 7, 12, 13, 14], [4, 12, 13, 14], [4, 12, 13, 14], [2, 3]], [26], []⟩
noncomputable def es_sub_Put : List (Ent U) := [e_sub_Right, e_frame_Put]
noncomputable def h_sub_Put (n : Nat) : (List S_api_Sub) × Unit → Option (((List UInt8) × Bool × Unit) × Unit) := runFn (U := U) Tryz.prog es_sub_Put ad_sub_Put n Tryz.f191 sg_sub_Put
noncomputable def g_sub_Put : (List S_api_Sub) × Unit → Option (((List UInt8) × Bool × Unit) × Unit) := h_sub_Put fuel
noncomputable def e_sub_Put : Ent U := ⟨191, sg_sub_Put, g_sub_Put⟩
noncomputable def fn_sub_Put := lp (tab es_sub_Put) ad_sub_Put Tryz.f191 0 sg_sub_Put
noncomputable def L_sub_Put_0 (n m : Nat) (a0 : List S_api_Sub) (x4 : List UInt8) (x14 : Int) : Option (((List UInt8) × Bool × Unit) × Unit) :=
  fn_sub_Put n [.r, .r, .r, .l, .r, .l, .at m] [(4, .one (.bs 5 x4 .app)), (12, .one (.sl 89 a0 .ro)), (13, .one (.int .i64 (a0.length : Int))), (14, .one (.int .i64 x14))]
def sg_prefix_Cut : Sig τ := ⟨[(false, T_string), (false, T_int)], [T_string]⟩
def ad_prefix_Cut : Adv := ⟨16, [[0, 1], [1, 5], [4]], [], []⟩
noncomputable def es_prefix_Cut : List (Ent U) := [e_prefix_Least, e_bits_Keep]
noncomputable def g_prefix_Cut : (List UInt8) × Int × Unit → Option (((List UInt8) × Unit) × Unit) := runFn (U := U) Tryz.prog es_prefix_Cut ad_prefix_Cut 0 Tryz.f228 sg_prefix_Cut
noncomputable def e_prefix_Cut : Ent U := ⟨228, sg_prefix_Cut, g_prefix_Cut⟩
def sg_route_Put : Sig τ := ⟨[(false, T_api_Msg)], [T_string, T_bool]⟩
def ad_route_Put : Adv := ⟨65, [[1], [1, 10], [2, 3], [1, 4], [1, 4, 6], [1, 4, 6, 7], [1, 4, 6, 7, 26], [1, 4, 6, 7], [1, 4, 6, 7], [1, 4, 6, 7], [4, 6, 7], [2, 3]], [27, 40, 44], []⟩
noncomputable def es_route_Put : List (Ent U) := [e_route_Right, e_sub_Put, e_prefix_Cut, e_route_shapes, e_frame_Put]
noncomputable def g_route_Put : S_api_Msg × Unit → Option (((List UInt8) × Bool × Unit) × Unit) := runFn (U := U) Tryz.prog es_route_Put ad_route_Put 0 Tryz.f186 sg_route_Put
noncomputable def e_route_Put : Ent U := ⟨186, sg_route_Put, g_route_Put⟩
def sg_field_writer_two : Sig τ := ⟨[(true, T_field_writer), (false, T_list_int)], []⟩
def ad_field_writer_two : Adv := ⟨27, [[0, 6, 7, 8], [0, 6, 7, 8, 9], [0, 5, 6, 7, 8], [0, 6, 7, 8], [0, 6, 7, 8]], [16], []⟩
noncomputable def es_field_writer_two : List (Ent U) := []
noncomputable def h_field_writer_two (n : Nat) : S_field_writer × (List Int) × Unit → Option ((Unit) × (S_field_writer × Unit)) := runFn (U := U) Tryz.prog es_field_writer_two ad_field_writer_two n Tryz.f229 sg_field_writer_two
noncomputable def g_field_writer_two : S_field_writer × (List Int) × Unit → Option ((Unit) × (S_field_writer × Unit)) := h_field_writer_two fuel
noncomputable def e_field_writer_two : Ent U := ⟨229, sg_field_writer_two, g_field_writer_two⟩
noncomputable def fn_field_writer_two := lp (tab es_field_writer_two) ad_field_writer_two Tryz.f229 1 sg_field_writer_two
noncomputable def L_field_writer_two_0 (n m : Nat) (a1 : List Int) (x8 : Int) (x1000000 : List UInt8) : Option ((Unit) × (S_field_writer × Unit)) :=
  fn_field_writer_two n [.r, .l, .at m] [(0, .one (.ref 1000000 0)), (6, .one (.sl 3 a1 .ro)), (7, .one (.int .i64 (a1.length : Int))), (8, .one (.int .i64 x8)), (1000000, .box [.bs 5 x1000000 .app])]
def sg_addr_Short : Sig τ := ⟨[(false, T_string)], [T_string, T_bool]⟩
def ad_addr_Short : Adv := ⟨9, [[0], [0, 6], [2, 3], [2, 3]], [], []⟩
noncomputable def es_addr_Short : List (Ent U) := [e_addr_Link]
noncomputable def g_addr_Short : (List UInt8) × Unit → Option (((List UInt8) × Bool × Unit) × Unit) := runFn (U := U) Tryz.prog es_addr_Short ad_addr_Short 0 Tryz.f190 sg_addr_Short
noncomputable def e_addr_Short : Ent U := ⟨190, sg_addr_Short, g_addr_Short⟩
def sg_field_Put : Sig τ := ⟨[(false, T_api_Msg)], [T_string, T_bool]⟩
def ad_field_Put : Adv := ⟨107, [[1], [1, 11], [2, 3], [1, 4], [1, 4, 15], [1, 4, 15, 16], [1, 4], [1, 4, 15, 25], [1, 4], [1, 4, 15, 32], [1, 4], [1, 4, 44], [1, 4], [1, 4, 5, 6], [1, 4, 5, 67], [1, 4], [1, 4], [1, 4, 7], [2, 3]], [72, 81], []⟩
noncomputable def es_field_Put : List (Ent U) := [e_field_Right, e_field_writer_two, e_sub_Put, e_frame_Put, e_addr_Short]
noncomputable def g_field_Put : S_api_Msg × Unit → Option (((List UInt8) × Bool × Unit) × Unit) := runFn (U := U) Tryz.prog es_field_Put ad_field_Put 0 Tryz.f188 sg_field_Put
noncomputable def e_field_Put : Ent U := ⟨188, sg_field_Put, g_field_Put⟩
def sg_lean_other : Sig τ := ⟨[(false, T_api_Msg)], [T_string]⟩
def ad_lean_other : Adv := ⟨30, [[1], [1], [1, 5], [3], [1, 5, 11], [1, 5, 11], [3], [1, 19], [3], [2]], [], []⟩
noncomputable def es_lean_other : List (Ent U) := [e_route_Put, e_frame_Put, e_field_Put]
noncomputable def g_lean_other : S_api_Msg × Unit → Option (((List UInt8) × Unit) × Unit) := runFn (U := U) Tryz.prog es_lean_other ad_lean_other 0 Tryz.f115 sg_lean_other
noncomputable def e_lean_other : Ent U := ⟨115, sg_lean_other, g_lean_other⟩
def sg_lean_writer_put : Sig τ := ⟨[(true, T_lean_writer), (false, T_int), (false, T_string)], []⟩
def ad_lean_writer_put : Adv := ⟨23, [[0, 6], []], [18], []⟩
noncomputable def es_lean_writer_put : List (Ent U) := [e_frame_Put]
noncomputable def g_lean_writer_put : S_lean_writer × Int × (List UInt8) × Unit → Option ((Unit) × (S_lean_writer × Unit)) := runFn (U := U) Tryz.prog es_lean_writer_put ad_lean_writer_put 0 Tryz.f189 sg_lean_writer_put
noncomputable def e_lean_writer_put : Ent U := ⟨189, sg_lean_writer_put, g_lean_writer_put⟩
def sg_lean_writer_id : Sig τ := ⟨[(true, T_lean_writer), (false, T_string)], []⟩
def ad_lean_writer_id : Adv := ⟨13, [[0, 1], []], [], []⟩
noncomputable def es_lean_writer_id : List (Ent U) := [e_lean_writer_put]
noncomputable def g_lean_writer_id : S_lean_writer × (List UInt8) × Unit → Option ((Unit) × (S_lean_writer × Unit)) := runFn (U := U) Tryz.prog es_lean_writer_id ad_lean_writer_id 0 Tryz.f117 sg_lean_writer_id
noncomputable def e_lean_writer_id : Ent U := ⟨117, sg_lean_writer_id, g_lean_writer_id⟩
def sg_lean_writer_hop : Sig τ := ⟨[(true, T_lean_writer), (false, T_int), (false, T_string)], []⟩
def ad_lean_writer_hop : Adv := ⟨37, [[0, 1, 2, 6, 7], [0, 1, 2], [0, 1, 2, 6, 17], [0, 1, 2], [0, 1, 2, 23], [0, 1, 2], []], [], []⟩
noncomputable def es_lean_writer_hop : List (Ent U) := [e_addr_Short, e_lean_writer_put]
noncomputable def g_lean_writer_hop : S_lean_writer × Int × (List UInt8) × Unit → Option ((Unit) × (S_lean_writer × Unit)) := runFn (U := U) Tryz.prog es_lean_writer_hop ad_lean_writer_hop 0 Tryz.f118 sg_lean_writer_hop
noncomputable def e_lean_writer_hop : Ent U := ⟨118, sg_lean_writer_hop, g_lean_writer_hop⟩
def sg_lean_base : Sig τ := ⟨[(false, T_int)], [T_int]⟩
def ad_lean_base : Adv := ⟨5, [[0], [4], [2], [2]], [], []⟩
noncomputable def es_lean_base : List (Ent U) := []
noncomputable def g_lean_base : Int × Unit → Option ((Int × Unit) × Unit) := runFn (U := U) Tryz.prog es_lean_base ad_lean_base 0 Tryz.f194 sg_lean_base
noncomputable def e_lean_base : Ent U := ⟨194, sg_lean_base, g_lean_base⟩
def sg_lean_bytes : Sig τ := ⟨[(false, T_api_Msg)], [T_string]⟩
def ad_lean_bytes : Adv := ⟨12, [[1], [2]], [], []⟩
noncomputable def es_lean_bytes : List (Ent U) := [e_prefix_Cut, e_lean_base]
noncomputable def g_lean_bytes : S_api_Msg × Unit → Option (((List UInt8) × Unit) × Unit) := runFn (U := U) Tryz.prog es_lean_bytes ad_lean_bytes 0 Tryz.f192 sg_lean_bytes
noncomputable def e_lean_bytes : Ent U := ⟨192, sg_lean_bytes, g_lean_bytes⟩
def sg_math_bits_Len8 : Sig τ := ⟨[(false, T_uint8)], [T_int]⟩
def ad_math_bits_Len8 : Adv := ⟨6, [[0], [2]], [], []⟩
noncomputable def es_math_bits_Len8 : List (Ent U) := []
noncomputable def g_math_bits_Len8 : Int × Unit → Option ((Int × Unit) × Unit) := runFn (U := U) Tryz.prog es_math_bits_Len8 ad_math_bits_Len8 0 Tryz.f274 sg_math_bits_Len8
noncomputable def e_math_bits_Len8 : Ent U := ⟨274, sg_math_bits_Len8, g_math_bits_Len8⟩
def sg_math_bits_LeadingZeros8 : Sig τ := ⟨[(false, T_uint8)], [T_int]⟩
def ad_math_bits_LeadingZeros8 : Adv := ⟨6, [[0], [2]], [], []⟩
noncomputable def es_math_bits_LeadingZeros8 : List (Ent U) := [e_math_bits_Len8]
noncomputable def g_math_bits_LeadingZeros8 : Int × Unit → Option ((Int × Unit) × Unit) := runFn (U := U) Tryz.prog es_math_bits_LeadingZeros8 ad_math_bits_LeadingZeros8 0 Tryz.f262 sg_math_bits_LeadingZeros8
noncomputable def e_math_bits_LeadingZeros8 : Ent U := ⟨262, sg_math_bits_LeadingZeros8, g_math_bits_LeadingZeros8⟩
def sg_bits_Alike : Sig τ := ⟨[(false, T_string), (false, T_string)], [T_int]⟩
def ad_bits_Alike : Adv := ⟨36, [[0, 1], [0, 1, 11, 12], [0, 1, 11, 12, 13], [0, 1, 5, 11, 12], [0, 1, 5, 6, 11, 12], [0, 1, 5, 6, 11, 12, 23], [4], [0, 1, 11, 12], [4]], [], []⟩
noncomputable def es_bits_Alike : List (Ent U) := [e_math_bits_LeadingZeros8]
noncomputable def h_bits_Alike (n : Nat) : (List UInt8) × (List UInt8) × Unit → Option ((Int × Unit) × Unit) := runFn (U := U) Tryz.prog es_bits_Alike ad_bits_Alike n Tryz.f230 sg_bits_Alike
noncomputable def g_bits_Alike : (List UInt8) × (List UInt8) × Unit → Option ((Int × Unit) × Unit) := h_bits_Alike fuel
noncomputable def e_bits_Alike : Ent U := ⟨230, sg_bits_Alike, g_bits_Alike⟩
noncomputable def fn_bits_Alike := lp (tab es_bits_Alike) ad_bits_Alike Tryz.f230 0 sg_bits_Alike
noncomputable def L_bits_Alike_0 (n m : Nat) (a0 : List UInt8) (a1 : List UInt8) (x11 : Int) (x12 : Int) : Option ((Int × Unit) × Unit) :=
  fn_bits_Alike n [.r, .l, .r, .l, .at m] [(0, .one (.str a0)), (1, .one (.str a1)), (11, .one (.int .i64 x11)), (12, .one (.int .i64 x12))]
def sg_prefix_Lead : Sig τ := ⟨[(false, T_string), (false, T_string)], [T_int]⟩
def ad_prefix_Lead : Adv := ⟨9, [[0, 1], [4]], [], []⟩
noncomputable def es_prefix_Lead : List (Ent U) := [e_bits_Alike]
noncomputable def g_prefix_Lead : (List UInt8) × (List UInt8) × Unit → Option ((Int × Unit) × Unit) := runFn (U := U) Tryz.prog es_prefix_Lead ad_prefix_Lead 0 Tryz.f193 sg_prefix_Lead
noncomputable def e_prefix_Lead : Ent U := ⟨193, sg_prefix_Lead, g_prefix_Lead⟩
def sg_lean_writer_omitted : Sig τ := ⟨[(true, T_lean_writer), (false, T_api_Msg)], [T_int]⟩
def ad_lean_writer_omitted : Adv := ⟨24, [[0, 3], [3, 5], [3, 5, 15], [4], [4]], [], []⟩
noncomputable def es_lean_writer_omitted : List (Ent U) := [e_lean_base, e_lean_bytes, e_prefix_Lead]
noncomputable def g_lean_writer_omitted : S_lean_writer × S_api_Msg × Unit → Option ((Int × Unit) × (S_lean_writer × Unit)) := runFn (U := U) Tryz.prog es_lean_writer_omitted ad_lean_writer_omitted 0 Tryz.f120 sg_lean_writer_omitted
noncomputable def e_lean_writer_omitted : Ent U := ⟨120, sg_lean_writer_omitted, g_lean_writer_omitted⟩
def sg_lean_writer_update : Sig τ := ⟨[(true, T_lean_writer), (false, T_api_Msg), (false, T_int)], []⟩
def ad_lean_writer_update : Adv := ⟨72, [[0, 2, 4], [0, 2, 4, 6], [0, 2, 4, 6, 22], [0, 2, 4, 6], [0, 2, 4, 6], [0, 2, 4, 6, 40, 41, 42], [0, 2, 4, 6, 40, 41, 42, 43], [0, 2, 4, 6, 8, 40, 41, 42], [0, 2, 4, 6, 40, 41, 42], [0, 2, 4, 6, 40, 41, 42], [0, 2, 4, 6, 9], []], [46], [19]⟩
noncomputable def es_lean_writer_update : List (Ent U) := [e_sub_Put, e_lean_bytes, e_lean_writer_put]
noncomputable def h_lean_writer_update (n : Nat) : S_lean_writer × S_api_Msg × Int × Unit → Option ((Unit) × (S_lean_writer × Unit)) := runFn (U := U) Tryz.prog es_lean_writer_update ad_lean_writer_update n Tryz.f119 sg_lean_writer_update
noncomputable def g_lean_writer_update : S_lean_writer × S_api_Msg × Int × Unit → Option ((Unit) × (S_lean_writer × Unit)) := h_lean_writer_update fuel
noncomputable def e_lean_writer_update : Ent U := ⟨119, sg_lean_writer_update, g_lean_writer_update⟩
noncomputable def fn_lean_writer_update := lp (tab es_lean_writer_update) ad_lean_writer_update Tryz.f119 1 sg_lean_writer_update
noncomputable def L_lean_writer_update_0 (n m : Nat) (a2 : Int) (a1 : S_api_Msg) (a0 : S_lean_writer) (x19 : List UInt8) (x40 : List Int) (x41 : Int) (x42 : Int) (x1000000_1 : List UInt8) (x1000000_2 : List UInt8) (x1000000_3 : List UInt8) (x1000000_4 : List UInt8) : Option ((Unit) × (S_lean_writer × Unit)) :=
  fn_lean_writer_update n [.r, .r, .r, .l, .r, .l, .at m] [(0, .one (.ref 1000000 0)), (2, .one (.int .i64 a2)), (4, .box [.int .i64 a1.kind, .int .i64 a1.cmd, .int .i64 a1.ver, .str a1.auth, .int .i64 a1.family, .int .i64 a1.ae, .str a1.prefix_, .int .i64 a1.plen, .int .i64 a1.tag, .str a1.next, .int .i64 a1.metric, .str a1.id, .int .i64 a1.seq, .int .i64 a1.seq2, .int .i64 a1.interval, .int .i64 a1.flags, .int .i64 a1.hops, .int .i64 a1.nonce, .int .i64 a1.cost, .str a1.addr, .str a1.orig, .sl 87 a1.list .ro, .int .i64 a1.type_, .str a1.data, .sl 89 a1.subs .ro]), (6, .one (.sref 19)), (19, .bblk 5 x19 true), (40, .one (.sl 3 x40 .app)), (41, .one (.int .i64 x41)), (42, .one (.int .i64 x42)), (1000000, .box [.bs 5 a0.b .app, .str x1000000_1, .str x1000000_2, .str x1000000_3, .str x1000000_4, .str a0.c_Next_c0, .str a0.c_Next_c1, .str a0.c_Id])]
noncomputable def L_lean_writer_update_1 (n m : Nat) (a2 : Int) (a1 : S_api_Msg) (x40 : List Int) (x41 : Int) (a0 : S_lean_writer) (x1000000_1 : List UInt8) (x1000000_2 : List UInt8) (x1000000_3 : List UInt8) (x1000000_4 : List UInt8) (x6 : List UInt8) (x42 : Int) : Option ((Unit) × (S_lean_writer × Unit)) :=
  fn_lean_writer_update n [.r, .r, .r, .l, .r, .l, .at m] [(0, .one (.ref 1000000 0)), (2, .one (.int .i64 a2)), (4, .box [.int .i64 a1.kind, .int .i64 a1.cmd, .int .i64 a1.ver, .str a1.auth, .int .i64 a1.family, .int .i64 a1.ae, .str a1.prefix_, .int .i64 a1.plen, .int .i64 a1.tag, .str a1.next, .int .i64 a1.metric, .str a1.id, .int .i64 a1.seq, .int .i64 a1.seq2, .int .i64 a1.interval, .int .i64 a1.flags, .int .i64 a1.hops, .int .i64 a1.nonce, .int .i64 a1.cost, .str a1.addr, .str a1.orig, .sl 87 a1.list .ro, .int .i64 a1.type_, .str a1.data, .sl 89 a1.subs .ro]), (6, .one (.bs 5 x6 .app)), (40, .one (.sl 3 x40 .app)), (41, .one (.int .i64 x41)), (42, .one (.int .i64 x42)), (1000000, .box [.bs 5 a0.b .app, .str x1000000_1, .str x1000000_2, .str x1000000_3, .str x1000000_4, .str a0.c_Next_c0, .str a0.c_Next_c1, .str a0.c_Id])]
def sg_lean_Put : Sig τ := ⟨[(false, T_api_Ctx), (false, T_api_Msg)], [T_string, T_api_Ctx, T_api_Errno]⟩
def ad_lean_Put : Adv := ⟨77, [[2, 3, 5], [2, 3, 5, 9], [4, 5, 6], [2, 3, 5, 14], [4, 5, 6], [2, 3, 5, 7], [2, 3, 5, 7, 26], [2, 3, 5, 7, 8], [2, 3, 5, 7, 8, 39], [4, 5, 6], [2, 3, 5, 7, 8, 45], [2, 3, 5, 7, 8], [3, 5, 7, 8, 56], [3, 5, 7], [5, 7], [4, 5, 6]], [], []⟩
noncomputable def es_lean_Put : List (Ent U) := [e_lean_Right, e_lean_other, e_ctx_Family, e_lean_writer_id, e_lean_writer_hop, e_lean_writer_omitted, e_lean_writer_update]
noncomputable def g_lean_Put : S_api_Ctx × S_api_Msg × Unit → Option (((List UInt8) × S_api_Ctx × Int × Unit) × Unit) := runFn (U := U) Tryz.prog es_lean_Put ad_lean_Put 0 Tryz.f58 sg_lean_Put
noncomputable def e_lean_Put : Ent U := ⟨58, sg_lean_Put, g_lean_Put⟩
def sg_frame_Wrap : Sig τ := ⟨[(false, T_string)], [T_string, T_bool]⟩
def ad_frame_Wrap : Adv := ⟨23, [[0], [0, 4, 5], [0, 4, 18], [2, 3], [2, 3]], [], []⟩
noncomputable def es_frame_Wrap : List (Ent U) := [e_octet_Put]
noncomputable def g_frame_Wrap : (List UInt8) × Unit → Option (((List UInt8) × Bool × Unit) × Unit) := runFn (U := U) Tryz.prog es_frame_Wrap ad_frame_Wrap 0 Tryz.f59 sg_frame_Wrap
noncomputable def e_frame_Wrap : Ent U := ⟨59, sg_frame_Wrap, g_frame_Wrap⟩
def sg_outlet_Encode : Sig τ := ⟨[(false, T_list_api_Msg)], [T_string, T_int, T_api_Errno]⟩
def ad_outlet_Encode : Adv := ⟨62, [[0], [0, 16, 17, 18], [0, 16, 17, 18, 19], [0, 5, 6, 16, 17, 18], [0, 5, 16, 17, 18, 25], [2, 3, 4], [0, 16, 17, 18], [0, 7], [0, 7, 8], [7, 8, 28, 29, 30], [7, 8, 28, 29, 30, 31], [7, 8, 9, 10, 28, 29, 30], [7, 8, 9, 11, 12, 13, 28, 29, 30], [7, 8, 9, 11, 12, 13, 28, 29, 30, 43], [2, 3, 4], [7, 8, 9, 28, 29, 30], [7, 8, 9, 28, 29, 30, 52], [2, 3, 4], [7, 8, 28, 29, 30], [14], [2, 3, 4]], [46], []⟩
noncomputable def es_outlet_Encode : List (Ent U) := [e_lean_Right, e_lean_Put, e_frame_Wrap]
noncomputable def h_outlet_Encode (n : Nat) : (List S_api_Msg) × Unit → Option (((List UInt8) × Int × Int × Unit) × Unit) := runFn (U := U) Tryz.prog es_outlet_Encode ad_outlet_Encode n Tryz.f35 sg_outlet_Encode
noncomputable def g_outlet_Encode : (List S_api_Msg) × Unit → Option (((List UInt8) × Int × Int × Unit) × Unit) := h_outlet_Encode fuel
noncomputable def e_outlet_Encode : Ent U := ⟨35, sg_outlet_Encode, g_outlet_Encode⟩
noncomputable def fn_outlet_Encode := lp (tab es_outlet_Encode) ad_outlet_Encode Tryz.f35 0 sg_outlet_Encode
noncomputable def L_outlet_Encode_0 (n m : Nat) (a0 : List S_api_Msg) (x18 : Int) : Option (((List UInt8) × Int × Int × Unit) × Unit) :=
  fn_outlet_Encode n [.r, .l, .r, .l, .at m] [(0, .one (.sl 29 a0 .ro)), (16, .one (.sl 29 a0 .ro)), (17, .one (.int .i64 (a0.length : Int))), (18, .one (.int .i64 x18))]
noncomputable def L_outlet_Encode_1 (n m : Nat) (a0 : List S_api_Msg) (x7 : List UInt8) (x8_0 : List UInt8) (x8_1 : List UInt8) (x8_2 : List UInt8) (x8_3 : List UInt8) (x8_4 : List UInt8) (x8_5 : List UInt8) (x8_6 : List UInt8) (x30 : Int) : Option (((List UInt8) × Int × Int × Unit) × Unit) :=
  fn_outlet_Encode n [.r, .r, .r, .r, .l, .r, .l, .at m] [(7, .one (.bs 5 x7 .app)), (8, .box [.str x8_0, .str x8_1, .str x8_2, .str x8_3, .str x8_4, .str x8_5, .str x8_6]), (28, .one (.sl 29 a0 .ro)), (29, .one (.int .i64 (a0.length : Int))), (30, .one (.int .i64 x30))]
def sg_suite_Encode : Sig τ := ⟨[(false, T_int), (false, T_list_api_Msg)], [T_string, T_int, T_api_Errno]⟩
def ad_suite_Encode : Adv := ⟨23, [[0, 1], [1, 7, 8], [1, 7, 15], [4, 5, 6], [4, 5, 6]], [], []⟩
noncomputable def es_suite_Encode : List (Ent U) := [e_rip_Encode, e_ripng_Encode, e_aodv_Encode, e_outlet_Encode]
noncomputable def ph0_suite_Encode : Tab U := inl Tryz.prog 41 (tab es_suite_Encode) ad_suite_of 0 Tryz.f41 (tab es_suite_Encode)
noncomputable def g_suite_Encode : Int × (List S_api_Msg) × Unit → Option (((List UInt8) × Int × Int × Unit) × Unit) := runPh (U := U) Tryz.prog ph0_suite_Encode ad_suite_Encode 0 Tryz.f21 sg_suite_Encode
noncomputable def e_suite_Encode : Ent U := ⟨21, sg_suite_Encode, g_suite_Encode⟩
def sg_suite_Right : Sig τ := ⟨[(false, T_int), (false, T_api_Msg)], [T_bool]⟩
def ad_suite_Right : Adv := ⟨19, [[0, 3], [3, 5, 6], [4]], [], []⟩
noncomputable def es_suite_Right : List (Ent U) := [e_rip_Right, e_ripng_Right, e_aodv_Right, e_lean_Right]
noncomputable def ph0_suite_Right : Tab U := inl Tryz.prog 41 (tab es_suite_Right) ad_suite_of 0 Tryz.f41 (tab es_suite_Right)
noncomputable def g_suite_Right : Int × S_api_Msg × Unit → Option ((Bool × Unit) × Unit) := runPh (U := U) Tryz.prog ph0_suite_Right ad_suite_Right 0 Tryz.f17 sg_suite_Right
noncomputable def e_suite_Right : Ent U := ⟨17, sg_suite_Right, g_suite_Right⟩
def sg_ref07_dests : Sig τ := ⟨[(false, T_list_api_Dest), (false, T_list_api_Dest)], [T_bool]⟩
def ad_ref07_dests : Adv := ⟨26, [[0, 1], [0, 1, 10], [4], [0, 1, 5], [0, 1, 5, 14], [0, 1, 5], [0, 1, 5, 25], [4], [4]], [], []⟩
noncomputable def es_ref07_dests : List (Ent U) := []
noncomputable def h_ref07_dests (n : Nat) : (List S_api_Dest) × (List S_api_Dest) × Unit → Option ((Bool × Unit) × Unit) := runFn (U := U) Tryz.prog es_ref07_dests ad_ref07_dests n Tryz.f109 sg_ref07_dests
noncomputable def g_ref07_dests : (List S_api_Dest) × (List S_api_Dest) × Unit → Option ((Bool × Unit) × Unit) := h_ref07_dests fuel
noncomputable def e_ref07_dests : Ent U := ⟨109, sg_ref07_dests, g_ref07_dests⟩
noncomputable def fn_ref07_dests := lp (tab es_ref07_dests) ad_ref07_dests Tryz.f109 0 sg_ref07_dests
noncomputable def L_ref07_dests_0 (n m : Nat) (a0 : List S_api_Dest) (a1 : List S_api_Dest) (x5 : Int) : Option ((Bool × Unit) × Unit) :=
  fn_ref07_dests n [.r, .r, .l, .r, .l, .at m] [(0, .one (.sl 87 a0 .ro)), (1, .one (.sl 87 a1 .ro)), (5, .one (.int .i64 x5))]
def sg_ref07_subs : Sig τ := ⟨[(false, T_list_api_Sub), (false, T_list_api_Sub)], [T_bool]⟩
def ad_ref07_subs : Adv := ⟨26, [[0, 1], [0, 1, 10], [4], [0, 1, 5], [0, 1, 5, 14], [0, 1, 5], [0, 1, 5, 25], [4], [4]], [], []⟩
noncomputable def es_ref07_subs : List (Ent U) := []
noncomputable def h_ref07_subs (n : Nat) : (List S_api_Sub) × (List S_api_Sub) × Unit → Option ((Bool × Unit) × Unit) := runFn (U := U) Tryz.prog es_ref07_subs ad_ref07_subs n Tryz.f110 sg_ref07_subs
noncomputable def g_ref07_subs : (List S_api_Sub) × (List S_api_Sub) × Unit → Option ((Bool × Unit) × Unit) := h_ref07_subs fuel
noncomputable def e_ref07_subs : Ent U := ⟨110, sg_ref07_subs, g_ref07_subs⟩
noncomputable def fn_ref07_subs := lp (tab es_ref07_subs) ad_ref07_subs Tryz.f110 0 sg_ref07_subs
noncomputable def L_ref07_subs_0 (n m : Nat) (a0 : List S_api_Sub) (a1 : List S_api_Sub) (x5 : Int) : Option ((Bool × Unit) × Unit) :=
  fn_ref07_subs n [.r, .r, .l, .r, .l, .at m] [(0, .one (.sl 89 a0 .ro)), (1, .one (.sl 89 a1 .ro)), (5, .one (.int .i64 x5))]
def sg_ref07_Same : Sig τ := ⟨[(false, T_api_Msg), (false, T_api_Msg)], [T_bool]⟩
def ad_ref07_Same : Adv := ⟨174, [[2, 3], [2, 3, 79], [4], [2, 3, 161], [4], [4]], [], []⟩
noncomputable def es_ref07_Same : List (Ent U) := [e_ref07_dests, e_ref07_subs]
noncomputable def g_ref07_Same : S_api_Msg × S_api_Msg × Unit → Option ((Bool × Unit) × Unit) := runFn (U := U) Tryz.prog es_ref07_Same ad_ref07_Same 0 Tryz.f54 sg_ref07_Same
noncomputable def e_ref07_Same : Ent U := ⟨54, sg_ref07_Same, g_ref07_Same⟩
def sg_ref07_Bare : Sig τ := ⟨[(false, T_api_Msg)], [T_bool]⟩
def ad_ref07_Bare : Adv := ⟨214, [[1], [1, 3], [1, 3, 10], [2], [1, 3, 10, 11], [1, 3], [1, 3, 10, 34], [1, 3], [1, 3, 10, 51], [1, 3], [1, 3, 10, 74], [1, 3], [1, 3, 10, 97], [1, 3], [1, 3, 10, 105], [1, 3, 10, 107], [1, 3], [1, 3, 10, 115], [1, 3], [1, 3, 10, 120], [1, 3], [1, 3, 10, 131], [1, 3], [1, 3, 10, 145], [1, 3], [1, 3, 10, 171], [1, 3], [1, 3, 10, 182], [1, 3], [1, 3, 202], [1, 3], [2]], [], []⟩
noncomputable def es_ref07_Bare : List (Ent U) := [e_ref07_Same]
noncomputable def g_ref07_Bare : S_api_Msg × Unit → Option ((Bool × Unit) × Unit) := runFn (U := U) Tryz.prog es_ref07_Bare ad_ref07_Bare 0 Tryz.f79 sg_ref07_Bare
noncomputable def e_ref07_Bare : Ent U := ⟨79, sg_ref07_Bare, g_ref07_Bare⟩
def sg_ref10_nought : Sig τ := ⟨[], [T_string]⟩
def ad_ref10_nought : Adv := ⟨1, [[], [0]], [], []⟩
noncomputable def es_ref10_nought : List (Ent U) := []
noncomputable def g_ref10_nought : Unit → Option (((List UInt8) × Unit) × Unit) := runFn (U := U) Tryz.prog es_ref10_nought ad_ref10_nought 0 Tryz.f80 sg_ref10_nought
noncomputable def e_ref10_nought : Ent U := ⟨80, sg_ref10_nought, g_ref10_nought⟩
def sg_ref03_Bit : Sig τ := ⟨[(false, T_string), (false, T_int)], [T_bool]⟩
def ad_ref03_Bit : Adv := ⟨28, [[0, 1], [4]], [], []⟩
noncomputable def es_ref03_Bit : List (Ent U) := []
noncomputable def g_ref03_Bit : (List UInt8) × Int × Unit → Option ((Bool × Unit) × Unit) := runFn (U := U) Tryz.prog es_ref03_Bit ad_ref03_Bit 0 Tryz.f252 sg_ref03_Bit
noncomputable def e_ref03_Bit : Ent U := ⟨252, sg_ref03_Bit, g_ref03_Bit⟩
def sg_ref03_Keep : Sig τ := ⟨[(false, T_string), (false, T_int)], [T_string]⟩
def ad_ref03_Keep : Adv := ⟨42, [[0, 1], [0, 1, 5], [0, 1, 5, 6], [0, 1, 5, 6, 19], [0, 1, 5, 6], [0, 1, 5, 6, 24], [0, 1, 5, 6], [4]], [], []⟩
noncomputable def es_ref03_Keep : List (Ent U) := [e_ref03_Bit]
noncomputable def h_ref03_Keep (n : Nat) : (List UInt8) × Int × Unit → Option (((List UInt8) × Unit) × Unit) := runFn (U := U) Tryz.prog es_ref03_Keep ad_ref03_Keep n Tryz.f218 sg_ref03_Keep
noncomputable def g_ref03_Keep : (List UInt8) × Int × Unit → Option (((List UInt8) × Unit) × Unit) := h_ref03_Keep fuel
noncomputable def e_ref03_Keep : Ent U := ⟨218, sg_ref03_Keep, g_ref03_Keep⟩
noncomputable def fn_ref03_Keep := lp (tab es_ref03_Keep) ad_ref03_Keep Tryz.f218 0 sg_ref03_Keep
noncomputable def L_ref03_Keep_0 (n m : Nat) (a0 : List UInt8) (a1 : Int) (x6 : Int) (x9 : List UInt8) : Option (((List UInt8) × Unit) × Unit) :=
  fn_ref03_Keep n [.r, .r, .l, .r, .l, .at m] [(0, .one (.str a0)), (1, .one (.int .i64 a1)), (5, .one (.sref 9)), (6, .one (.int .i64 x6)), (9, .bblk 5 x9 true)]
def sg_ref03_Clean : Sig τ := ⟨[(false, T_string), (false, T_int)], [T_bool]⟩
def ad_ref03_Clean : Adv := ⟨10, [[0, 1], [4]], [], []⟩
noncomputable def es_ref03_Clean : List (Ent U) := [e_ref03_Keep]
noncomputable def g_ref03_Clean : (List UInt8) × Int × Unit → Option ((Bool × Unit) × Unit) := runFn (U := U) Tryz.prog es_ref03_Clean ad_ref03_Clean 0 Tryz.f157 sg_ref03_Clean
noncomputable def e_ref03_Clean : Ent U := ⟨157, sg_ref03_Clean, g_ref03_Clean⟩
def sg_ref04_Right : Sig τ := ⟨[(false, T_string), (false, T_int)], [T_bool]⟩
def ad_ref04_Right : Adv := ⟨29, [[0, 1], [4]], [], []⟩
noncomputable def es_ref04_Right : List (Ent U) := [e_ref03_Clean]
noncomputable def g_ref04_Right : (List UInt8) × Int × Unit → Option ((Bool × Unit) × Unit) := runFn (U := U) Tryz.prog es_ref04_Right ad_ref04_Right 0 Tryz.f81 sg_ref04_Right
noncomputable def e_ref04_Right : Ent U := ⟨81, sg_ref04_Right, g_ref04_Right⟩
def sg_ref10_Right : Sig τ := ⟨[(false, T_api_Msg)], [T_bool]⟩
def ad_ref10_Right : Adv := ⟨135, [[1], [1, 42], [2], [1, 56], [2], [1, 59], [2], [1, 102], [2], [1, 105], [2], [2]], [], []⟩
noncomputable def es_ref10_Right : List (Ent U) := [e_ref07_Bare, e_ref10_nought, e_ref04_Right]
noncomputable def g_ref10_Right : S_api_Msg × Unit → Option ((Bool × Unit) × Unit) := runFn (U := U) Tryz.prog es_ref10_Right ad_ref10_Right 0 Tryz.f42 sg_ref10_Right
noncomputable def e_ref10_Right : Ent U := ⟨42, sg_ref10_Right, g_ref10_Right⟩
def sg_ref02_Zeros : Sig τ := ⟨[(false, T_int)], [T_string]⟩
def ad_ref02_Zeros : Adv := ⟨8, [[0], [0, 4], [2], [2]], [], []⟩
noncomputable def es_ref02_Zeros : List (Ent U) := []
noncomputable def g_ref02_Zeros : Int × Unit → Option (((List UInt8) × Unit) × Unit) := runFn (U := U) Tryz.prog es_ref02_Zeros ad_ref02_Zeros 0 Tryz.f158 sg_ref02_Zeros
noncomputable def e_ref02_Zeros : Ent U := ⟨158, sg_ref02_Zeros, g_ref02_Zeros⟩
def sg_ref12_none : Sig τ := ⟨[], [T_string]⟩
def ad_ref12_none : Adv := ⟨2, [[], [0]], [], []⟩
noncomputable def es_ref12_none : List (Ent U) := [e_ref02_Zeros]
noncomputable def g_ref12_none : Unit → Option (((List UInt8) × Unit) × Unit) := runFn (U := U) Tryz.prog es_ref12_none ad_ref12_none 0 Tryz.f82 sg_ref12_none
noncomputable def e_ref12_none : Ent U := ⟨82, sg_ref12_none, g_ref12_none⟩
def sg_ref06_link : Sig τ := ⟨[], [T_string]⟩
def ad_ref06_link : Adv := ⟨1, [[], [0]], [], []⟩
noncomputable def es_ref06_link : List (Ent U) := []
noncomputable def g_ref06_link : Unit → Option (((List UInt8) × Unit) × Unit) := runFn (U := U) Tryz.prog es_ref06_link ad_ref06_link 0 Tryz.f159 sg_ref06_link
noncomputable def e_ref06_link : Ent U := ⟨159, sg_ref06_link, g_ref06_link⟩
def sg_ref06_Link : Sig τ := ⟨[(false, T_string)], [T_bool]⟩
def ad_ref06_Link : Adv := ⟨12, [[0], [2]], [], []⟩
noncomputable def es_ref06_Link : List (Ent U) := [e_ref06_link]
noncomputable def g_ref06_Link : (List UInt8) × Unit → Option ((Bool × Unit) × Unit) := runFn (U := U) Tryz.prog es_ref06_Link ad_ref06_Link 0 Tryz.f83 sg_ref06_Link
noncomputable def e_ref06_Link : Ent U := ⟨83, sg_ref06_Link, g_ref06_Link⟩
def sg_ref07_Bytes : Sig τ := ⟨[(false, T_list_api_Sub)], [T_int]⟩
def ad_ref07_Bytes : Adv := ⟨21, [[0], [0, 3], [0, 3, 4], [0, 3, 4, 8], [0, 3, 4], [0, 3, 4], [2]], [], []⟩
noncomputable def es_ref07_Bytes : List (Ent U) := []
noncomputable def h_ref07_Bytes (n : Nat) : (List S_api_Sub) × Unit → Option ((Int × Unit) × Unit) := runFn (U := U) Tryz.prog es_ref07_Bytes ad_ref07_Bytes n Tryz.f220 sg_ref07_Bytes
noncomputable def g_ref07_Bytes : (List S_api_Sub) × Unit → Option ((Int × Unit) × Unit) := h_ref07_Bytes fuel
noncomputable def e_ref07_Bytes : Ent U := ⟨220, sg_ref07_Bytes, g_ref07_Bytes⟩
noncomputable def fn_ref07_Bytes := lp (tab es_ref07_Bytes) ad_ref07_Bytes Tryz.f220 0 sg_ref07_Bytes
noncomputable def L_ref07_Bytes_0 (n m : Nat) (a0 : List S_api_Sub) (x3 : Int) (x4 : Int) : Option ((Int × Unit) × Unit) :=
  fn_ref07_Bytes n [.r, .r, .l, .r, .l, .at m] [(0, .one (.sl 89 a0 .ro)), (3, .one (.int .i64 x3)), (4, .one (.int .i64 x4))]
def sg_ref22_Family : Sig τ := ⟨[(false, T_int)], [T_int]⟩
def ad_ref22_Family : Adv := ⟨11, [[0], [0, 4], [2], [10], [2], [2]], [], []⟩
noncomputable def es_ref22_Family : List (Ent U) := []
noncomputable def g_ref22_Family : Int × Unit → Option ((Int × Unit) × Unit) := runFn (U := U) Tryz.prog es_ref22_Family ad_ref22_Family 0 Tryz.f168 sg_ref22_Family
noncomputable def e_ref22_Family : Ent U := ⟨168, sg_ref22_Family, g_ref22_Family⟩
def sg_ref10_head : Sig τ := ⟨[(false, T_string)], [T_int, T_api_Errno]⟩
def ad_ref10_head : Adv := ⟨55, [[0], [0, 4], [2, 3], [0, 10], [2, 3], [0, 19], [2, 3], [0, 28], [2, 3], [0, 37], [2, 3], [0, 45], [2, 3], [51], [2, 3], [2, 3]], [], []⟩
noncomputable def es_ref10_head : List (Ent U) := []
noncomputable def g_ref10_head : (List UInt8) × Unit → Option ((Int × Int × Unit) × Unit) := runFn (U := U) Tryz.prog es_ref10_head ad_ref10_head 0 Tryz.f91 sg_ref10_head
noncomputable def e_ref10_head : Ent U := ⟨91, sg_ref10_head, g_ref10_head⟩
def sg_ref09_Is : Sig τ := ⟨[(false, T_string)], [T_bool]⟩
def ad_ref09_Is : Adv := ⟨16, [[0], [2]], [], []⟩
noncomputable def es_ref09_Is : List (Ent U) := []
noncomputable def g_ref09_Is : (List UInt8) × Unit → Option ((Bool × Unit) × Unit) := runFn (U := U) Tryz.prog es_ref09_Is ad_ref09_Is 0 Tryz.f92 sg_ref09_Is
noncomputable def e_ref09_Is : Ent U := ⟨92, sg_ref09_Is, g_ref09_Is⟩
def sg_ref09_Get : Sig τ := ⟨[(false, T_string)], [T_string, T_bool]⟩
def ad_ref09_Get : Adv := ⟨9, [[0], [0, 6], [2, 3], [2, 3]], [], []⟩
noncomputable def es_ref09_Get : List (Ent U) := [e_ref09_Is]
noncomputable def g_ref09_Get : (List UInt8) × Unit → Option (((List UInt8) × Bool × Unit) × Unit) := runFn (U := U) Tryz.prog es_ref09_Get ad_ref09_Get 0 Tryz.f93 sg_ref09_Get
noncomputable def e_ref09_Get : Ent U := ⟨93, sg_ref09_Get, g_ref09_Get⟩
def sg_ref08_Number : Sig τ := ⟨[(false, T_string)], [T_int]⟩
def ad_ref08_Number : Adv := ⟨23, [[0], [0, 3], [0, 3, 4], [0, 3, 4, 12], [0, 3, 4], [0, 3, 4], [2]], [], []⟩
noncomputable def es_ref08_Number : List (Ent U) := []
noncomputable def h_ref08_Number (n : Nat) : (List UInt8) × Unit → Option ((Int × Unit) × Unit) := runFn (U := U) Tryz.prog es_ref08_Number ad_ref08_Number n Tryz.f169 sg_ref08_Number
noncomputable def g_ref08_Number : (List UInt8) × Unit → Option ((Int × Unit) × Unit) := h_ref08_Number fuel
noncomputable def e_ref08_Number : Ent U := ⟨169, sg_ref08_Number, g_ref08_Number⟩
noncomputable def fn_ref08_Number := lp (tab es_ref08_Number) ad_ref08_Number Tryz.f169 0 sg_ref08_Number
noncomputable def L_ref08_Number_0 (n m : Nat) (a0 : List UInt8) (x3 : Int) (x4 : Int) : Option ((Int × Unit) × Unit) :=
  fn_ref08_Number n [.r, .r, .l, .r, .l, .at m] [(0, .one (.str a0)), (3, .one (.int .i64 x3)), (4, .one (.int .i64 x4))]
def sg_ref08_Get : Sig τ := ⟨[(false, T_string)], [T_api_Entry, T_bool]⟩
def ad_ref08_Get : Adv := ⟨24, [[0, 2], [0, 2, 6], [2, 3], [2, 3]], [], []⟩
noncomputable def es_ref08_Get : List (Ent U) := [e_ref08_Number]
noncomputable def g_ref08_Get : (List UInt8) × Unit → Option ((S_api_Entry × Bool × Unit) × Unit) := runFn (U := U) Tryz.prog es_ref08_Get ad_ref08_Get 0 Tryz.f94 sg_ref08_Get
noncomputable def e_ref08_Get : Ent U := ⟨94, sg_ref08_Get, g_ref08_Get⟩
def sg_ref05_Of : Sig τ := ⟨[(false, T_int)], [T_string, T_bool]⟩
def ad_ref05_Of : Adv := ⟨12, [[0], [0, 9], [2, 3], [2, 3]], [], []⟩
noncomputable def es_ref05_Of : List (Ent U) := [e_ref03_Keep]
noncomputable def g_ref05_Of : Int × Unit → Option (((List UInt8) × Bool × Unit) × Unit) := runFn (U := U) Tryz.prog es_ref05_Of ad_ref05_Of 0 Tryz.f175 sg_ref05_Of
noncomputable def e_ref05_Of : Ent U := ⟨175, sg_ref05_Of, g_ref05_Of⟩
def sg_ref05_Plen : Sig τ := ⟨[(false, T_string)], [T_int, T_bool]⟩
def ad_ref05_Plen : Adv := ⟨20, [[0], [0, 4], [0, 4, 8], [0, 4], [0, 4, 5], [0, 4, 18], [2, 3], [2, 3]], [], []⟩
noncomputable def es_ref05_Plen : List (Ent U) := [e_ref05_Of]
noncomputable def h_ref05_Plen (n : Nat) : (List UInt8) × Unit → Option ((Int × Bool × Unit) × Unit) := runFn (U := U) Tryz.prog es_ref05_Plen ad_ref05_Plen n Tryz.f170 sg_ref05_Plen
noncomputable def g_ref05_Plen : (List UInt8) × Unit → Option ((Int × Bool × Unit) × Unit) := h_ref05_Plen fuel
noncomputable def e_ref05_Plen : Ent U := ⟨170, sg_ref05_Plen, g_ref05_Plen⟩
noncomputable def fn_ref05_Plen := lp (tab es_ref05_Plen) ad_ref05_Plen Tryz.f170 0 sg_ref05_Plen
noncomputable def L_ref05_Plen_0 (n m : Nat) (a0 : List UInt8) (x4 : Int) : Option ((Int × Bool × Unit) × Unit) :=
  fn_ref05_Plen n [.r, .l, .r, .l, .at m] [(0, .one (.str a0)), (4, .one (.int .i64 x4))]
def sg_ref10_route : Sig τ := ⟨[(false, T_api_Entry), (false, T_int), (false, T_int), (false, T_string), (false, T_bool)], [T_api_Msg, T_api_Errno]⟩
def ad_ref10_route : Adv := ⟨98, [[1, 2, 3, 4, 5, 10], [2, 4, 5, 10, 12], [2, 4, 5, 10, 12, 31], [10, 12, 44], [10, 11], [10, 11], [2, 5, 10, 12, 49], [10, 11], [5, 10, 12, 52], [5, 10, 12], [5, 10, 12, 68], [10, 11], [5, 10, 12, 13, 14], [5, 10, 12, 13, 14], [5, 10, 12, 86], [10, 11], [10, 12, 95], [10, 11], [10, 11]], [], []⟩
noncomputable def es_ref10_route : List (Ent U) := [e_ref10_nought, e_ref10_Right, e_ref05_Plen, e_ref04_Right]
noncomputable def g_ref10_route : S_api_Entry × Int × Int × (List UInt8) × Bool × Unit → Option ((S_api_Msg × Int × Unit) × Unit) := runFn (U := U) Tryz.prog es_ref10_route ad_ref10_route 0 Tryz.f95 sg_ref10_route
noncomputable def e_ref10_route : Ent U := ⟨95, sg_ref10_route, g_ref10_route⟩
def sg_ref10_Parse : Sig τ := ⟨[(false, T_string)], [T_list_api_Msg, T_int, T_api_Errno]⟩
def ad_ref10_Parse : Adv := ⟨82, [[0], [0, 5, 6], [0, 5, 6, 20], [2, 3, 4], [0, 5, 7], [0, 5, 7, 30], [0, 7], [0, 5, 7], [0, 5, 7, 39], [2, 3, 4], [0, 5, 7, 8], [0, 5, 7, 8, 9], [0, 5, 7, 8, 9, 44], [0, 5, 7, 8, 9], [0, 5, 7, 8, 9, 10], [0, 5, 7, 8, 9, 12, 13], [0, 5, 7, 8, 9, 12, 13, 74], [2, 3, 4], [0, 5, 7, 8, 9], [2, 3, 4]], [77], []⟩
noncomputable def es_ref10_Parse : List (Ent U) := [e_ref10_head, e_ref09_Is, e_ref09_Get, e_ref08_Get, e_ref10_route]
noncomputable def h_ref10_Parse (n : Nat) : (List UInt8) × Unit → Option (((List S_api_Msg) × Int × Int × Unit) × Unit) := runFn (U := U) Tryz.prog es_ref10_Parse ad_ref10_Parse n Tryz.f46 sg_ref10_Parse
noncomputable def g_ref10_Parse : (List UInt8) × Unit → Option (((List S_api_Msg) × Int × Int × Unit) × Unit) := h_ref10_Parse fuel
noncomputable def e_ref10_Parse : Ent U := ⟨46, sg_ref10_Parse, g_ref10_Parse⟩
noncomputable def fn_ref10_Parse := lp (tab es_ref10_Parse) ad_ref10_Parse Tryz.f46 0 sg_ref10_Parse
noncomputable def L_ref10_Parse_0 (n m : Nat) (a0 : List UInt8) (x5 : Int) (x7 : List UInt8) (x8 : List S_api_Msg) (x9 : Int) : Option (((List S_api_Msg) × Int × Int × Unit) × Unit) :=
  fn_ref10_Parse n [.r, .r, .r, .r, .r, .r, .l, .r, .l, .at m] [(0, .one (.str a0)), (5, .one (.int .i64 x5)), (7, .one (.str x7)), (8, .one (.sl 29 x8 .app)), (9, .one (.int .i64 x9))]
def sg_ref11_Get : Sig τ := ⟨[(false, T_string)], [T_api_Entry, T_bool]⟩
def ad_ref11_Get : Adv := ⟨20, [[0, 2], [0, 2, 6], [2, 3], [2, 3]], [], []⟩
noncomputable def es_ref11_Get : List (Ent U) := [e_ref08_Number]
noncomputable def g_ref11_Get : (List UInt8) × Unit → Option ((S_api_Entry × Bool × Unit) × Unit) := runFn (U := U) Tryz.prog es_ref11_Get ad_ref11_Get 0 Tryz.f96 sg_ref11_Get
noncomputable def e_ref11_Get : Ent U := ⟨96, sg_ref11_Get, g_ref11_Get⟩
def sg_ref12_Parse : Sig τ := ⟨[(false, T_string)], [T_list_api_Msg, T_int, T_api_Errno]⟩
def ad_ref12_Parse : Adv := ⟨122, [[0], [0, 10], [2, 3, 4], [0, 14], [2, 3, 4], [0, 20], [2, 3, 4], [0, 29], [2, 3, 4], [0, 33], [2, 3, 4], [0, 42], [2, 3, 4], [0, 5], [0, 5, 6], [0, 5, 6, 7], [0, 5, 6, 7, 54], [0, 5, 6, 7], [0, 5, 6, 7, 8], [0, 5, 6, 7, 8, 68], [0, 5, 7, 8, 76], [2, 3, 4], [0, 5, 6, 7, 8], [0, 5, 6, 7, 8, 81], [0, 5, 6, 7], [0, 5, 6, 7, 8, 89], [2, 3, 4], [0, 5, 6, 7, 8, 98], [2, 3, 4], [0, 5, 6, 7], [0, 5, 118], [2, 3, 4], [2, 3, 4]], [100], []⟩
noncomputable def es_ref12_Parse : List (Ent U) := [e_ref12_none, e_ref11_Get, e_ref06_Link, e_ref04_Right]
noncomputable def h_ref12_Parse (n : Nat) : (List UInt8) × Unit → Option (((List S_api_Msg) × Int × Int × Unit) × Unit) := runFn (U := U) Tryz.prog es_ref12_Parse ad_ref12_Parse n Tryz.f47 sg_ref12_Parse
noncomputable def g_ref12_Parse : (List UInt8) × Unit → Option (((List S_api_Msg) × Int × Int × Unit) × Unit) := h_ref12_Parse fuel
noncomputable def e_ref12_Parse : Ent U := ⟨47, sg_ref12_Parse, g_ref12_Parse⟩
noncomputable def fn_ref12_Parse := lp (tab es_ref12_Parse) ad_ref12_Parse Tryz.f47 0 sg_ref12_Parse
noncomputable def L_ref12_Parse_0 (n m : Nat) (a0 : List UInt8) (x5 : List S_api_Msg) (x6 : List UInt8) (x7 : Int) : Option (((List S_api_Msg) × Int × Int × Unit) × Unit) :=
  fn_ref12_Parse n [.r, .r, .r, .r, .l, .r, .l, .at m] [(0, .one (.str a0)), (5, .one (.sl 29 x5 .app)), (6, .one (.str x6)), (7, .one (.int .i64 x7))]
def sg_ref13_Get : Sig τ := ⟨[(false, T_string)], [T_list_api_Sub, T_int, T_api_Errno]⟩
def ad_ref13_Get : Adv := ⟨57, [[0], [0, 5], [0, 5, 6], [0, 5, 6, 11], [0, 5, 6, 29], [2, 3, 4], [0, 5, 6, 7], [0, 5, 6, 7], [0, 5, 6], [2, 3, 4]], [36], []⟩
noncomputable def es_ref13_Get : List (Ent U) := []
noncomputable def h_ref13_Get (n : Nat) : (List UInt8) × Unit → Option (((List S_api_Sub) × Int × Int × Unit) × Unit) := runFn (U := U) Tryz.prog es_ref13_Get ad_ref13_Get n Tryz.f221 sg_ref13_Get
noncomputable def g_ref13_Get : (List UInt8) × Unit → Option (((List S_api_Sub) × Int × Int × Unit) × Unit) := h_ref13_Get fuel
noncomputable def e_ref13_Get : Ent U := ⟨221, sg_ref13_Get, g_ref13_Get⟩
noncomputable def fn_ref13_Get := lp (tab es_ref13_Get) ad_ref13_Get Tryz.f221 0 sg_ref13_Get
noncomputable def L_ref13_Get_0 (n m : Nat) (a0 : List UInt8) (x5 : List S_api_Sub) (x6 : Int) : Option (((List S_api_Sub) × Int × Int × Unit) × Unit) :=
  fn_ref13_Get n [.r, .r, .r, .l, .l, .at m] [(0, .one (.str a0)), (5, .one (.sl 89 x5 .app)), (6, .one (.int .i64 x6))]
def sg_ref14_Get : Sig τ := ⟨[(false, T_string)], [T_api_Msg, T_int, T_api_Errno]⟩
def ad_ref14_Get : Adv := ⟨59, [[0, 2], [0, 2, 10], [2, 3, 4], [0, 2, 22], [2, 3, 4], [0, 2, 5, 6, 7], [0, 2, 5, 6, 7, 32], [2, 3, 4], [2, 3, 4]], [], []⟩
noncomputable def es_ref14_Get : List (Ent U) := [e_ref13_Get, e_ref08_Number]
noncomputable def g_ref14_Get : (List UInt8) × Unit → Option ((S_api_Msg × Int × Int × Unit) × Unit) := runFn (U := U) Tryz.prog es_ref14_Get ad_ref14_Get 0 Tryz.f171 sg_ref14_Get
noncomputable def e_ref14_Get : Ent U := ⟨171, sg_ref14_Get, g_ref14_Get⟩
def sg_ref16_Get : Sig τ := ⟨[(false, T_string)], [T_api_Msg, T_int, T_api_Errno]⟩
def ad_ref16_Get : Adv := ⟨97, [[0, 2], [0, 2, 13], [2, 3, 4], [0, 2, 25], [2, 3, 4], [0, 2, 5], [0, 2, 5, 31], [2, 3, 4], [0, 2, 5, 38], [2, 3, 4], [0, 2, 5, 6], [0, 2, 5, 6, 7], [0, 2, 5, 6, 7, 49], [0, 2, 5, 6, 7], [0, 2, 5, 6, 7], [2, 5, 6, 8, 9, 10], [2, 5, 6, 8, 9, 10, 86], [2, 3, 4], [2, 6], [2, 3, 4]], [53], []⟩
noncomputable def es_ref16_Get : List (Ent U) := [e_ref08_Number, e_ref13_Get]
noncomputable def h_ref16_Get (n : Nat) : (List UInt8) × Unit → Option ((S_api_Msg × Int × Int × Unit) × Unit) := runFn (U := U) Tryz.prog es_ref16_Get ad_ref16_Get n Tryz.f172 sg_ref16_Get
noncomputable def g_ref16_Get : (List UInt8) × Unit → Option ((S_api_Msg × Int × Int × Unit) × Unit) := h_ref16_Get fuel
noncomputable def e_ref16_Get : Ent U := ⟨172, sg_ref16_Get, g_ref16_Get⟩
noncomputable def fn_ref16_Get := lp (tab es_ref16_Get) ad_ref16_Get Tryz.f172 0 sg_ref16_Get
noncomputable def L_ref16_Get_0 (n m : Nat) (a0 : List UInt8) (x5 : Int) (x6_15 : Int) (x6_21 : List S_api_Dest) (x7 : Int) : Option ((S_api_Msg × Int × Int × Unit) × Unit) :=
  fn_ref16_Get n [.r, .r, .r, .r, .r, .r, .r, .l, .r, .l, .at m] [(0, .one (.str a0)), (2, .box [.int .i64 0, .int .i64 0, .int .i64 0, .str ([] : List UInt8), .int .i64 0, .int .i64 0, .str ([] : List UInt8), .int .i64 0, .int .i64 0, .str ([] : List UInt8), .int .i64 0, .str ([] : List UInt8), .int .i64 0, .int .i64 0, .int .i64 0, .int .i64 0, .int .i64 0, .int .i64 0, .int .i64 0, .str ([] : List UInt8), .str ([] : List UInt8), .sl 87 [] .app, .int .i64 0, .str ([] : List UInt8), .sl 89 [] .app]), (5, .one (.int .i64 x5)), (6, .box [.int .i64 5, .int .i64 0, .int .i64 0, .str ([] : List UInt8), .int .i64 0, .int .i64 0, .str ([] : List UInt8), .int .i64 0, .int .i64 0, .str ([] : List UInt8), .int .i64 0, .str ([] : List UInt8), .int .i64 0, .int .i64 0, .int .i64 0, .int .i64 x6_15, .int .i64 0, .int .i64 0, .int .i64 0, .str ([] : List UInt8), .str ([] : List UInt8), .sl 87 x6_21 .app, .int .i64 0, .str ([] : List UInt8), .sl 89 [] .app]), (7, .one (.int .i64 x7))]
def sg_ref15_Get : Sig τ := ⟨[(false, T_string)], [T_api_Msg, T_int, T_api_Errno]⟩
def ad_ref15_Get : Adv := ⟨88, [[0, 2], [0, 2, 5], [0, 2, 5, 16], [0, 2, 5], [0, 2, 5, 20], [2, 3, 4], [0, 2, 5, 45], [2, 3, 4], [0, 2, 5, 6, 7, 8], [0, 2, 5, 6, 7, 8, 56], [2, 3, 4], [0, 2, 6, 63], [2, 3, 4], [2, 3, 4]], [], []⟩
noncomputable def es_ref15_Get : List (Ent U) := [e_ref13_Get, e_ref08_Number]
noncomputable def g_ref15_Get : (List UInt8) × Unit → Option ((S_api_Msg × Int × Int × Unit) × Unit) := runFn (U := U) Tryz.prog es_ref15_Get ad_ref15_Get 0 Tryz.f173 sg_ref15_Get
noncomputable def e_ref15_Get : Ent U := ⟨173, sg_ref15_Get, g_ref15_Get⟩
def sg_ref17_get : Sig τ := ⟨[(false, T_string)], [T_api_Msg, T_int, T_api_Errno]⟩
def ad_ref17_get : Adv := ⟨26, [[0, 2], [0, 2, 6], [0, 2, 6, 7], [2, 3, 4], [0, 2, 14], [2, 3, 4], [2, 3, 4]], [], []⟩
noncomputable def es_ref17_get : List (Ent U) := [e_ref14_Get, e_ref16_Get, e_ref15_Get]
noncomputable def g_ref17_get : (List UInt8) × Unit → Option ((S_api_Msg × Int × Int × Unit) × Unit) := runFn (U := U) Tryz.prog es_ref17_get ad_ref17_get 0 Tryz.f97 sg_ref17_get
noncomputable def e_ref17_get : Ent U := ⟨97, sg_ref17_get, g_ref17_get⟩
def sg_ref17_Parse : Sig τ := ⟨[(false, T_string)], [T_list_api_Msg, T_int, T_api_Errno]⟩
def ad_ref17_Parse : Adv := ⟨37, [[0], [0, 8], [2, 3, 4], [0, 12], [2, 3, 4], [0, 16], [2, 3, 4], [5, 6, 7], [5, 6, 7, 32], [2, 3, 4], [2, 3, 4]], [], []⟩
noncomputable def es_ref17_Parse : List (Ent U) := [e_ref17_get]
noncomputable def g_ref17_Parse : (List UInt8) × Unit → Option (((List S_api_Msg) × Int × Int × Unit) × Unit) := runFn (U := U) Tryz.prog es_ref17_Parse ad_ref17_Parse 0 Tryz.f48 sg_ref17_Parse
noncomputable def e_ref17_Parse : Ent U := ⟨48, sg_ref17_Parse, g_ref17_Parse⟩
def sg_ref18_Body : Sig τ := ⟨[(false, T_string)], [T_string, T_int, T_api_Errno]⟩
def ad_ref18_Body : Adv := ⟨43, [[0], [0, 6], [2, 3, 4], [0, 10], [2, 3, 4], [0, 16], [2, 3, 4], [0, 20], [2, 3, 4], [0, 5], [0, 5, 36], [2, 3, 4], [2, 3, 4]], [], []⟩
noncomputable def es_ref18_Body : List (Ent U) := []
noncomputable def g_ref18_Body : (List UInt8) × Unit → Option (((List UInt8) × Int × Int × Unit) × Unit) := runFn (U := U) Tryz.prog es_ref18_Body ad_ref18_Body 0 Tryz.f98 sg_ref18_Body
noncomputable def e_ref18_Body : Ent U := ⟨98, sg_ref18_Body, g_ref18_Body⟩
def sg_ref18_Split : Sig τ := ⟨[(false, T_string), (false, T_int)], [T_list_api_Tlv, T_int, T_api_Errno]⟩
def ad_ref18_Split : Adv := ⟨77, [[0, 1], [0, 1, 7], [0, 1, 7, 8], [0, 1, 7, 8, 13], [0, 1, 7, 8, 17], [0, 1, 7, 8], [0, 1, 7, 8], [0, 1, 7, 8, 44], [4, 5, 6], [0, 1, 7, 8, 9], [0, 1, 7, 8, 9], [0, 1, 7, 8], [4, 5, 6]], [18, 53], []⟩
noncomputable def es_ref18_Split : List (Ent U) := []
noncomputable def h_ref18_Split (n : Nat) : (List UInt8) × Int × Unit → Option (((List S_api_Tlv) × Int × Int × Unit) × Unit) := runFn (U := U) Tryz.prog es_ref18_Split ad_ref18_Split n Tryz.f99 sg_ref18_Split
noncomputable def g_ref18_Split : (List UInt8) × Int × Unit → Option (((List S_api_Tlv) × Int × Int × Unit) × Unit) := h_ref18_Split fuel
noncomputable def e_ref18_Split : Ent U := ⟨99, sg_ref18_Split, g_ref18_Split⟩
noncomputable def fn_ref18_Split := lp (tab es_ref18_Split) ad_ref18_Split Tryz.f99 0 sg_ref18_Split
noncomputable def L_ref18_Split_0 (n m : Nat) (a0 : List UInt8) (a1 : Int) (x7 : List S_api_Tlv) (x8 : Int) : Option (((List S_api_Tlv) × Int × Int × Unit) × Unit) :=
  fn_ref18_Split n [.r, .r, .r, .l, .l, .at m] [(0, .one (.str a0)), (1, .one (.int .i64 a1)), (7, .one (.sl 122 x7 .app)), (8, .one (.int .i64 x8))]
def sg_ref18_Trailer : Sig τ := ⟨[(false, T_string)], [T_string]⟩
def ad_ref18_Trailer : Adv := ⟨17, [[0], [0, 3], [2]], [], []⟩
noncomputable def es_ref18_Trailer : List (Ent U) := [e_ref18_Body]
noncomputable def g_ref18_Trailer : (List UInt8) × Unit → Option (((List UInt8) × Unit) × Unit) := runFn (U := U) Tryz.prog es_ref18_Trailer ad_ref18_Trailer 0 Tryz.f100 sg_ref18_Trailer
noncomputable def e_ref18_Trailer : Ent U := ⟨100, sg_ref18_Trailer, g_ref18_Trailer⟩
def sg_ref19_Get : Sig τ := ⟨[(false, T_string)], [T_list_api_Sub, T_bool, T_api_Errno]⟩
def ad_ref19_Get : Adv := ⟨68, [[0], [5, 7], [5, 7, 18], [2, 3, 4], [5, 8], [5, 8, 9], [5, 8, 9, 10], [5, 8, 9, 10, 23], [5, 8, 9, 10], [5, 8, 9, 10, 39], [5, 8, 9, 10], [5, 8, 9, 10], [8, 9, 65], [2, 3, 4], [2, 3, 4]], [40], []⟩
noncomputable def es_ref19_Get : List (Ent U) := [e_ref18_Split, e_ref07_Bytes]
noncomputable def h_ref19_Get (n : Nat) : (List UInt8) × Unit → Option (((List S_api_Sub) × Bool × Int × Unit) × Unit) := runFn (U := U) Tryz.prog es_ref19_Get ad_ref19_Get n Tryz.f258 sg_ref19_Get
noncomputable def g_ref19_Get : (List UInt8) × Unit → Option (((List S_api_Sub) × Bool × Int × Unit) × Unit) := h_ref19_Get fuel
noncomputable def e_ref19_Get : Ent U := ⟨258, sg_ref19_Get, g_ref19_Get⟩
noncomputable def fn_ref19_Get := lp (tab es_ref19_Get) ad_ref19_Get Tryz.f258 0 sg_ref19_Get
noncomputable def L_ref19_Get_0 (n m : Nat) (r1 : ((List S_api_Tlv) × Int × Int × Unit) × Unit) (x8 : List S_api_Sub) (x9 : Bool) (x10 : Int) : Option (((List S_api_Sub) × Bool × Int × Unit) × Unit) :=
  fn_ref19_Get n [.r, .r, .r, .r, .r, .l, .r, .l, .at m] [(5, .one (.sl 122 r1.1.1 .ro)), (8, .one (.sl 89 x8 .app)), (9, .one (.bool x9)), (10, .one (.int .i64 x10))]
def sg_ref22_fixed : Sig τ := ⟨[(false, T_string), (false, T_int)], [T_bool, T_api_Errno]⟩
def ad_ref22_fixed : Adv := ⟨23, [[0, 1], [0, 1, 12], [4, 5], [7, 8], [4, 5]], [], []⟩
noncomputable def es_ref22_fixed : List (Ent U) := [e_ref19_Get]
noncomputable def g_ref22_fixed : (List UInt8) × Int × Unit → Option ((Bool × Int × Unit) × Unit) := runFn (U := U) Tryz.prog es_ref22_fixed ad_ref22_fixed 0 Tryz.f253 sg_ref22_fixed
noncomputable def e_ref22_fixed : Ent U := ⟨253, sg_ref22_fixed, g_ref22_fixed⟩
def sg_ref20_Long : Sig τ := ⟨[(false, T_int)], [T_int]⟩
def ad_ref20_Long : Adv := ⟨7, [[0], [2]], [], []⟩
noncomputable def es_ref20_Long : List (Ent U) := []
noncomputable def g_ref20_Long : Int × Unit → Option ((Int × Unit) × Unit) := runFn (U := U) Tryz.prog es_ref20_Long ad_ref20_Long 0 Tryz.f256 sg_ref20_Long
noncomputable def e_ref20_Long : Ent U := ⟨256, sg_ref20_Long, g_ref20_Long⟩
def sg_ref06_Long : Sig τ := ⟨[(false, T_string)], [T_string, T_bool]⟩
def ad_ref06_Long : Adv := ⟨10, [[0], [0, 6], [2, 3], [2, 3]], [], []⟩
noncomputable def es_ref06_Long : List (Ent U) := [e_ref06_link]
noncomputable def g_ref06_Long : (List UInt8) × Unit → Option (((List UInt8) × Bool × Unit) × Unit) := runFn (U := U) Tryz.prog es_ref06_Long ad_ref06_Long 0 Tryz.f257 sg_ref06_Long
noncomputable def e_ref06_Long : Ent U := ⟨257, sg_ref06_Long, g_ref06_Long⟩
def sg_ref22_hop : Sig τ := ⟨[(false, T_api_Ctx), (false, T_string)], [T_api_Ctx, T_api_Errno]⟩
def ad_ref22_hop : Adv := ⟨58, [[1, 2, 4], [1, 2, 4, 13], [4, 5], [1, 2, 4, 6], [1, 2, 4, 6, 23], [4, 5], [1, 2, 4, 6, 7], [1, 2, 4, 6, 7, 8, 9], [1, 2, 4, 6, 7, 9, 39], [4, 5], [2, 4, 6, 10], [2, 4, 6, 10, 46], [2, 4, 6, 10], [2, 4], [4, 5]], [], []⟩
noncomputable def es_ref22_hop : List (Ent U) := [e_ref20_Long, e_ref22_fixed, e_ref06_Long, e_ref22_Family]
noncomputable def g_ref22_hop : S_api_Ctx × (List UInt8) × Unit → Option ((S_api_Ctx × Int × Unit) × Unit) := runFn (U := U) Tryz.prog es_ref22_hop ad_ref22_hop 0 Tryz.f254 sg_ref22_hop
noncomputable def e_ref22_hop : Ent U := ⟨254, sg_ref22_hop, g_ref22_hop⟩
def sg_ref21_great : Sig τ := ⟨[(false, T_int), (false, T_int)], [T_bool]⟩
def ad_ref21_great : Adv := ⟨24, [[0, 1], [1, 5], [1, 5, 6], [4], [1, 5, 10], [4], [1, 14], [4], [4]], [], []⟩
noncomputable def es_ref21_great : List (Ent U) := []
noncomputable def g_ref21_great : Int × Int × Unit → Option ((Bool × Unit) × Unit) := runFn (U := U) Tryz.prog es_ref21_great ad_ref21_great 0 Tryz.f259 sg_ref21_great
noncomputable def e_ref21_great : Ent U := ⟨259, sg_ref21_great, g_ref21_great⟩
def sg_ref04_Least : Sig τ := ⟨[(false, T_int)], [T_int]⟩
def ad_ref04_Least : Adv := ⟨8, [[0], [0, 4], [2], [2]], [], []⟩
noncomputable def es_ref04_Least : List (Ent U) := []
noncomputable def g_ref04_Least : Int × Unit → Option ((Int × Unit) × Unit) := runFn (U := U) Tryz.prog es_ref04_Least ad_ref04_Least 0 Tryz.f232 sg_ref04_Least
noncomputable def e_ref04_Least : Ent U := ⟨232, sg_ref04_Least, g_ref04_Least⟩
def sg_ref21_Base : Sig τ := ⟨[(false, T_int)], [T_int]⟩
def ad_ref21_Base : Adv := ⟨5, [[0], [4], [2], [2]], [], []⟩
noncomputable def es_ref21_Base : List (Ent U) := []
noncomputable def g_ref21_Base : Int × Unit → Option ((Int × Unit) × Unit) := runFn (U := U) Tryz.prog es_ref21_Base ad_ref21_Base 0 Tryz.f179 sg_ref21_Base
noncomputable def e_ref21_Base : Ent U := ⟨179, sg_ref21_Base, g_ref21_Base⟩
def sg_ref21_Take : Sig τ := ⟨[(false, T_api_Tlv)], [T_api_Raw, T_bool, T_api_Errno]⟩
def ad_ref21_Take : Adv := ⟨91, [[1, 2], [2, 5], [2, 5, 15], [2, 3, 4], [2, 5, 6], [2, 5, 6, 41], [2, 3, 4], [2, 5, 6, 47], [2, 3, 4], [2, 5, 6, 7], [2, 5, 6, 7, 60], [2, 3, 4], [2, 5, 6, 7, 66], [2, 3, 4], [2, 5, 6, 7, 8, 9, 10], [2, 5, 6, 7, 8, 9, 10, 78], [2, 3, 4], [2, 6, 9], [2, 6, 88], [2, 6], [2, 3, 4]], [], []⟩
noncomputable def es_ref21_Take : List (Ent U) := [e_ref08_Number, e_ref21_great, e_ref04_Least, e_ref21_Base, e_ref19_Get]
noncomputable def g_ref21_Take : S_api_Tlv × Unit → Option ((S_api_Raw × Bool × Int × Unit) × Unit) := runFn (U := U) Tryz.prog es_ref21_Take ad_ref21_Take 0 Tryz.f271 sg_ref21_Take
noncomputable def e_ref21_Take : Ent U := ⟨271, sg_ref21_Take, g_ref21_Take⟩
def sg_ref04_Fill : Sig τ := ⟨[(false, T_string), (false, T_int)], [T_string]⟩
def ad_ref04_Fill : Adv := ⟨12, [[0, 1], [0, 1, 8], [0, 1], [4]], [], []⟩
noncomputable def es_ref04_Fill : List (Ent U) := []
noncomputable def h_ref04_Fill (n : Nat) : (List UInt8) × Int × Unit → Option (((List UInt8) × Unit) × Unit) := runFn (U := U) Tryz.prog es_ref04_Fill ad_ref04_Fill n Tryz.f273 sg_ref04_Fill
noncomputable def g_ref04_Fill : (List UInt8) × Int × Unit → Option (((List UInt8) × Unit) × Unit) := h_ref04_Fill fuel
noncomputable def e_ref04_Fill : Ent U := ⟨273, sg_ref04_Fill, g_ref04_Fill⟩
noncomputable def fn_ref04_Fill := lp (tab es_ref04_Fill) ad_ref04_Fill Tryz.f273 0 sg_ref04_Fill
noncomputable def L_ref04_Fill_0 (n m : Nat) (a1 : Int) (x0 : List UInt8) : Option (((List UInt8) × Unit) × Unit) :=
  fn_ref04_Fill n [.r, .l, .l, .at m] [(0, .one (.str x0)), (1, .one (.int .i64 a1))]
def sg_ref21_Whole : Sig τ := ⟨[(false, T_int), (false, T_string), (false, T_int)], [T_string]⟩
def ad_ref21_Whole : Adv := ⟨33, [[0, 1, 2], [1, 2, 9], [1, 2, 9, 10], [6], [1, 2, 9, 16], [6], [1, 2, 22], [2, 7], [6], [6]], [], []⟩
noncomputable def es_ref21_Whole : List (Ent U) := [e_ref04_Fill, e_ref03_Keep, e_ref06_Long]
noncomputable def g_ref21_Whole : Int × (List UInt8) × Int × Unit → Option (((List UInt8) × Unit) × Unit) := runFn (U := U) Tryz.prog es_ref21_Whole ad_ref21_Whole 0 Tryz.f260 sg_ref21_Whole
noncomputable def e_ref21_Whole : Ent U := ⟨260, sg_ref21_Whole, g_ref21_Whole⟩
def sg_ref22_told : Sig τ := ⟨[(false, T_api_Ctx), (false, T_api_Raw), (false, T_string)], [T_api_Msg, T_bool]⟩
def ad_ref22_told : Adv := ⟨51, [[2, 3, 4, 6], [3, 4, 6, 8], [3, 4, 6, 8, 25], [6, 7], [3, 4, 6, 8, 29], [6, 7], [3, 4, 6, 8, 38], [6, 7], [6, 8], [6, 7]], [], []⟩
noncomputable def es_ref22_told : List (Ent U) := [e_ref22_Family]
noncomputable def g_ref22_told : S_api_Ctx × S_api_Raw × (List UInt8) × Unit → Option ((S_api_Msg × Bool × Unit) × Unit) := runFn (U := U) Tryz.prog es_ref22_told ad_ref22_told 0 Tryz.f272 sg_ref22_told
noncomputable def e_ref22_told : Ent U := ⟨272, sg_ref22_told, g_ref22_told⟩
def sg_ref22_update : Sig τ := ⟨[(false, T_api_Ctx), (false, T_api_Tlv)], [T_api_Ctx, T_list_api_Msg, T_api_Errno]⟩
def ad_ref22_update : Adv := ⟨109, [[2, 3, 4], [2, 4, 7, 8, 9], [2, 4, 7, 9, 26], [4, 5, 6], [2, 4, 7, 10], [2, 4, 7, 10, 31], [2, 4, 7, 11], [2, 4, 7, 11, 38], [4, 5, 6], [2, 4, 7, 10], [2, 4, 7, 12], [2, 4, 7, 12, 64], [2, 4, 7, 12], [2, 4, 7, 12, 79], [2, 4, 7, 12], [2, 4, 7, 12, 84], [2, 4, 7, 12], [2, 4, 7, 12], [2, 4, 13, 14], [2, 4, 13, 104], [4, 5, 6], [4, 5, 6]], [], []⟩
noncomputable def es_ref22_update : List (Ent U) := [e_ref21_Take, e_ref21_Base, e_ref21_Whole, e_ref22_told]
noncomputable def g_ref22_update : S_api_Ctx × S_api_Tlv × Unit → Option ((S_api_Ctx × (List S_api_Msg) × Int × Unit) × Unit) := runFn (U := U) Tryz.prog es_ref22_update ad_ref22_update 0 Tryz.f255 sg_ref22_update
noncomputable def e_ref22_update : Ent U := ⟨255, sg_ref22_update, g_ref22_update⟩
def sg_ref22_Step : Sig τ := ⟨[(false, T_api_Ctx), (false, T_api_Tlv)], [T_api_Ctx, T_list_api_Msg, T_api_Errno]⟩
def ad_ref22_Step : Adv := ⟨49, [[2, 3, 4], [2, 3, 4, 12], [2, 3, 4, 12, 13], [2, 3, 4, 7, 8], [2, 3, 4, 8, 25], [2, 4, 8], [4, 5, 6], [2, 3, 4, 32], [4, 9, 10], [4, 5, 6], [4, 5, 6]], [], []⟩
noncomputable def es_ref22_Step : List (Ent U) := [e_ref22_fixed, e_ref22_hop, e_ref22_update]
noncomputable def g_ref22_Step : S_api_Ctx × S_api_Tlv × Unit → Option ((S_api_Ctx × (List S_api_Msg) × Int × Unit) × Unit) := runFn (U := U) Tryz.prog es_ref22_Step ad_ref22_Step 0 Tryz.f222 sg_ref22_Step
noncomputable def e_ref22_Step : Ent U := ⟨222, sg_ref22_Step, g_ref22_Step⟩
def sg_ref20_Get : Sig τ := ⟨[(false, T_api_Tlv)], [T_api_Msg, T_bool, T_api_Errno]⟩
def ad_ref20_Get : Adv := ⟨108, [[1, 2], [1, 2, 5], [1, 2, 5, 6], [1, 2, 5, 6, 15], [1, 2, 5, 6], [1, 2, 5, 6, 19], [2, 3, 4], [1, 2, 5, 6, 7], [2, 5, 6, 7, 23], [2, 5, 7], [2, 5, 7, 36], [2, 3, 4], [2, 5, 6, 7], [2, 5, 6, 7, 45], [2, 3, 4], [2, 5, 6, 7], [2, 5, 6, 7, 53], [2, 5, 6, 7], [2, 5, 6, 7, 23, 61], [2, 5, 6, 7], [2, 5, 6, 7, 23, 70], [2, 5, 6, 7], [2, 5, 6, 7, 76], [2, 5, 6, 7], [2, 7, 8, 9, 10], [2, 7, 8, 10, 102], [2, 3, 4], [2, 7], [2, 3, 4]], [], []⟩
noncomputable def es_ref20_Get : List (Ent U) := [e_ref08_Number, e_ref19_Get, e_ref20_Long, e_ref06_Long]
noncomputable def g_ref20_Get : S_api_Tlv × Unit → Option ((S_api_Msg × Bool × Int × Unit) × Unit) := runFn (U := U) Tryz.prog es_ref20_Get ad_ref20_Get 0 Tryz.f223 sg_ref20_Get
noncomputable def e_ref20_Get : Ent U := ⟨223, sg_ref20_Get, g_ref20_Get⟩
def sg_ref21_Get : Sig τ := ⟨[(false, T_api_Tlv)], [T_api_Msg, T_bool, T_api_Errno]⟩
def ad_ref21_Get : Adv := ⟨104, [[1, 2], [1, 2, 5], [1, 2, 5, 6], [1, 2, 5, 6, 18], [1, 2, 5, 6], [1, 2, 5, 6, 22], [2, 3, 4], [1, 2, 5, 6, 7, 8], [1, 2, 5, 6, 7, 8, 31], [2, 3, 4], [1, 2, 5, 6, 7, 8, 35], [2, 3, 4], [1, 2, 5, 6, 7, 8, 9], [1, 2, 5, 6, 7, 8, 9, 47], [2, 3, 4], [1, 2, 5, 6, 7, 8, 9, 10, 11, 12], [1, 2, 5, 6, 7, 8, 9, 10, 12, 64], [2, 3, 4], [1, 2, 5, 7, 13], [2, 5, 7, 13, 82], [2, 7, 13], [2, 13, 101], [2, 3, 4], [2, 3, 4]], [], []⟩
noncomputable def es_ref21_Get : List (Ent U) := [e_ref21_great, e_ref04_Least, e_ref21_Base, e_ref19_Get, e_ref21_Whole, e_ref08_Number]
noncomputable def g_ref21_Get : S_api_Tlv × Unit → Option ((S_api_Msg × Bool × Int × Unit) × Unit) := runFn (U := U) Tryz.prog es_ref21_Get ad_ref21_Get 0 Tryz.f224 sg_ref21_Get
noncomputable def e_ref21_Get : Ent U := ⟨224, sg_ref21_Get, g_ref21_Get⟩
def sg_ref23_one : Sig τ := ⟨[(false, T_api_Ctx), (false, T_api_Tlv)], [T_api_Ctx, T_list_api_Msg, T_api_Errno]⟩
def ad_ref23_one : Adv := ⟨62, [[2, 3, 4], [2, 3, 4, 7], [2, 3, 4, 7], [2, 3, 4, 7, 9], [2, 3, 4, 7, 9, 11], [2, 4, 7, 8, 9], [2, 3, 4, 7, 9, 11, 17], [2, 3, 4, 7, 9, 11, 17], [4, 5, 6], [2, 3, 4, 7, 9, 11, 21], [2, 3, 4, 7, 9, 11, 21], [2, 3, 4, 7, 9, 11, 21], [4, 5, 6], [2, 3, 4, 7, 9, 11, 31], [2, 3, 4, 7, 9, 11, 31], [2, 3, 4, 7, 9, 11, 31], [2, 3, 4, 7, 9, 11, 31], [2, 4, 7, 8, 9], [2, 3, 4, 7, 9, 11, 42], [2, 3, 4, 7, 9, 42], [2, 4, 7, 8, 9], [2, 4, 7, 9, 56], [4, 5, 6], [4, 5, 6]], [], [999999]⟩
noncomputable def es_ref23_one : List (Ent U) := [e_ref22_Step, e_ref20_Get, e_ref21_Get]
noncomputable def g_ref23_one : S_api_Ctx × S_api_Tlv × Unit → Option ((S_api_Ctx × (List S_api_Msg) × Int × Unit) × Unit) := runFn (U := U) Tryz.prog es_ref23_one ad_ref23_one 0 Tryz.f174 sg_ref23_one
noncomputable def e_ref23_one : Ent U := ⟨174, sg_ref23_one, g_ref23_one⟩
def sg_ref23_Fold : Sig τ := ⟨[(false, T_list_api_Tlv)], [T_list_api_Msg, T_api_Ctx, T_int, T_api_Errno]⟩
def ad_ref23_Fold : Adv := ⟨43, [[0, 3], [0, 3, 6], [0, 3, 6, 7], [0, 3, 6, 7, 8], [0, 3, 6, 7, 8, 15], [0, 3, 6, 7, 8], [0, 3, 6, 7, 8, 9, 10, 11], [0, 3, 6, 7, 8, 9, 10, 11, 29], [2, 3, 4, 5], [0, 3, 6, 7, 8, 10], [0, 3, 6, 7, 8], [2, 3, 4, 5]], [38], []⟩
noncomputable def es_ref23_Fold : List (Ent U) := [e_ref23_one]
noncomputable def h_ref23_Fold (n : Nat) : (List S_api_Tlv) × Unit → Option (((List S_api_Msg) × S_api_Ctx × Int × Int × Unit) × Unit) := runFn (U := U) Tryz.prog es_ref23_Fold ad_ref23_Fold n Tryz.f101 sg_ref23_Fold
noncomputable def g_ref23_Fold : (List S_api_Tlv) × Unit → Option (((List S_api_Msg) × S_api_Ctx × Int × Int × Unit) × Unit) := h_ref23_Fold fuel
noncomputable def e_ref23_Fold : Ent U := ⟨101, sg_ref23_Fold, g_ref23_Fold⟩
noncomputable def fn_ref23_Fold := lp (tab es_ref23_Fold) ad_ref23_Fold Tryz.f101 0 sg_ref23_Fold
noncomputable def L_ref23_Fold_0 (n m : Nat) (a0 : List S_api_Tlv) (x6 : List S_api_Msg) (x7_0 : List UInt8) (x7_1 : List UInt8) (x7_2 : List UInt8) (x7_3 : List UInt8) (x7_4 : List UInt8) (x7_5 : List UInt8) (x7_6 : List UInt8) (x8 : Int) : Option (((List S_api_Msg) × S_api_Ctx × Int × Int × Unit) × Unit) :=
  fn_ref23_Fold n [.r, .r, .r, .l, .r, .l, .at m] [(0, .one (.sl 122 a0 .ro)), (3, .box [.str ([] : List UInt8), .str ([] : List UInt8), .str ([] : List UInt8), .str ([] : List UInt8), .str ([] : List UInt8), .str ([] : List UInt8), .str ([] : List UInt8)]), (6, .one (.sl 29 x6 .app)), (7, .box [.str x7_0, .str x7_1, .str x7_2, .str x7_3, .str x7_4, .str x7_5, .str x7_6]), (8, .one (.int .i64 x8))]
def sg_ref23_Parse : Sig τ := ⟨[(false, T_string)], [T_list_api_Msg, T_int, T_api_Errno]⟩
def ad_ref23_Parse : Adv := ⟨55, [[0], [0, 5, 6, 7], [0, 5, 6, 7, 18], [2, 3, 4], [0, 5, 6, 7, 8], [0, 5, 6, 7, 8, 28], [2, 3, 4], [6, 7, 8], [6, 7, 8, 42], [2, 3, 4], [6, 7, 9], [2, 3, 4]], [], []⟩
noncomputable def es_ref23_Parse : List (Ent U) := [e_ref18_Body, e_ref18_Split, e_ref18_Trailer, e_ref23_Fold]
noncomputable def g_ref23_Parse : (List UInt8) × Unit → Option (((List S_api_Msg) × Int × Int × Unit) × Unit) := runFn (U := U) Tryz.prog es_ref23_Parse ad_ref23_Parse 0 Tryz.f49 sg_ref23_Parse
noncomputable def e_ref23_Parse : Ent U := ⟨49, sg_ref23_Parse, g_ref23_Parse⟩
def sg_ref26_Parse : Sig τ := ⟨[(false, T_int), (false, T_string)], [T_list_api_Msg, T_int, T_api_Errno]⟩
def ad_ref26_Parse : Adv := ⟨36, [[0, 1], [1, 7], [1, 7, 8], [4, 5, 6], [1, 7, 15], [4, 5, 6], [1, 7, 22], [4, 5, 6], [1, 29], [4, 5, 6], [4, 5, 6]], [], []⟩
noncomputable def es_ref26_Parse : List (Ent U) := [e_ref10_Parse, e_ref12_Parse, e_ref17_Parse, e_ref23_Parse]
noncomputable def g_ref26_Parse : Int × (List UInt8) × Unit → Option (((List S_api_Msg) × Int × Int × Unit) × Unit) := runFn (U := U) Tryz.prog es_ref26_Parse ad_ref26_Parse 0 Tryz.f20 sg_ref26_Parse
noncomputable def e_ref26_Parse : Ent U := ⟨20, sg_ref26_Parse, g_ref26_Parse⟩
def sg_pack_datagram : Sig τ := ⟨[(false, T_int), (false, T_list_api_Msg), (false, T_int)], [T_string, T_bool]⟩
def ad_pack_datagram : Adv := ⟨27, [[0, 1, 2], [2, 8, 10], [6, 7]], [], []⟩
noncomputable def es_pack_datagram : List (Ent U) := [e_suite_Encode]
noncomputable def g_pack_datagram : Int × (List S_api_Msg) × Int × Unit → Option (((List UInt8) × Bool × Unit) × Unit) := runFn (U := U) Tryz.prog es_pack_datagram ad_pack_datagram 0 Tryz.f56 sg_pack_datagram
noncomputable def e_pack_datagram : Ent U := ⟨56, sg_pack_datagram, g_pack_datagram⟩
def sg_pack_Fits : Sig τ := ⟨[(false, T_int), (false, T_list_api_Msg), (false, T_int)], [T_bool]⟩
def ad_pack_Fits : Adv := ⟨17, [[0, 1, 2], [8], [6]], [], []⟩
noncomputable def es_pack_Fits : List (Ent U) := [e_pack_datagram]
noncomputable def g_pack_Fits : Int × (List S_api_Msg) × Int × Unit → Option ((Bool × Unit) × Unit) := runFn (U := U) Tryz.prog es_pack_Fits ad_pack_Fits 0 Tryz.f31 sg_pack_Fits
noncomputable def e_pack_Fits : Ent U := ⟨31, sg_pack_Fits, g_pack_Fits⟩
def sg_pack_check : Sig τ := ⟨[(false, T_int), (false, T_list_api_Msg), (false, T_int)], [T_int, T_api_Errno]⟩
def ad_pack_check : Adv := ⟨46, [[0, 1, 2], [0, 1, 2, 16], [6, 7], [0, 1, 2, 17, 18, 19], [0, 1, 2, 17, 18, 19, 20], [0, 1, 2, 8, 9, 17, 18, 19], [0, 1, 2, 8, 17, 18, 19, 27], [6, 7], [0, 1, 2, 17, 18, 19], [0, 1, 2, 31, 32], [0, 1, 2, 31, 32, 33], [0, 1, 2, 10, 31, 32], [0, 1, 2, 10, 31, 32, 43], [6, 7], [0, 1, 2, 31, 32], [6, 7]], [], []⟩
noncomputable def es_pack_check : List (Ent U) := [e_suite_Right, e_pack_Fits]
noncomputable def h_pack_check (n : Nat) : Int × (List S_api_Msg) × Int × Unit → Option ((Int × Int × Unit) × Unit) := runFn (U := U) Tryz.prog es_pack_check ad_pack_check n Tryz.f55 sg_pack_check
noncomputable def g_pack_check : Int × (List S_api_Msg) × Int × Unit → Option ((Int × Int × Unit) × Unit) := h_pack_check fuel
noncomputable def e_pack_check : Ent U := ⟨55, sg_pack_check, g_pack_check⟩
noncomputable def fn_pack_check := lp (tab es_pack_check) ad_pack_check Tryz.f55 0 sg_pack_check
noncomputable def L_pack_check_0 (n m : Nat) (a0 : Int) (a1 : List S_api_Msg) (a2 : Int) (x19 : Int) : Option ((Int × Int × Unit) × Unit) :=
  fn_pack_check n [.r, .r, .l, .r, .l, .at m] [(0, .one (.int .i64 a0)), (1, .one (.sl 29 a1 .ro)), (2, .one (.int .i64 a2)), (17, .one (.sl 29 a1 .ro)), (18, .one (.int .i64 (a1.length : Int))), (19, .one (.int .i64 x19))]
noncomputable def L_pack_check_1 (n m : Nat) (a0 : Int) (a1 : List S_api_Msg) (a2 : Int) (x32 : Int) : Option ((Int × Int × Unit) × Unit) :=
  fn_pack_check n [.r, .r, .r, .l, .r, .l, .at m] [(0, .one (.int .i64 a0)), (1, .one (.sl 29 a1 .ro)), (2, .one (.int .i64 a2)), (31, .one (.int .i64 (a1.length : Int))), (32, .one (.int .i64 x32))]
def sg_pack_Pack : Sig τ := ⟨[(false, T_int), (false, T_list_api_Msg), (false, T_int)], [T_list_string, T_int, T_api_Errno]⟩
def ad_pack_Pack : Adv := ⟨57, [[0, 1, 2], [0, 1, 2, 9, 10], [0, 1, 2, 9, 10, 24], [6, 7, 8], [0, 1, 2, 11], [0, 1, 2, 11, 29], [0, 1, 2, 11, 12, 13], [0, 1, 2, 11, 12, 13, 33], [0, 1, 2, 11, 12, 13, 14, 15], [0, 1, 2, 11, 12, 13, 14, 45], [0, 1, 2, 11, 12, 13], [0, 1, 2, 11], [6, 7, 8]], [49], []⟩
noncomputable def es_pack_Pack : List (Ent U) := [e_pack_check, e_pack_datagram]
noncomputable def h_pack_Pack (n : Nat) : Int × (List S_api_Msg) × Int × Unit → Option (((List (List UInt8)) × Int × Int × Unit) × Unit) := runFn (U := U) Tryz.prog es_pack_Pack ad_pack_Pack n Tryz.f30 sg_pack_Pack
noncomputable def g_pack_Pack : Int × (List S_api_Msg) × Int × Unit → Option (((List (List UInt8)) × Int × Int × Unit) × Unit) := h_pack_Pack fuel
noncomputable def e_pack_Pack : Ent U := ⟨30, sg_pack_Pack, g_pack_Pack⟩
noncomputable def fn_pack_Pack := lp (tab es_pack_Pack) ad_pack_Pack Tryz.f30 0 sg_pack_Pack
noncomputable def L_pack_Pack_0 (n m : Nat) (a0 : Int) (a2 : Int) (x1 : List S_api_Msg) (x11 : List (List UInt8)) : Option (((List (List UInt8)) × Int × Int × Unit) × Unit) :=
  fn_pack_Pack n [.r, .r, .r, .l, .l, .at m] [(0, .one (.int .i64 a0)), (1, .one (.sl 29 x1 .ro)), (2, .one (.int .i64 a2)), (11, .one (.sl 9 x11 .app))]
noncomputable def L_pack_Pack_1 (n m0 m : Nat) (a0 : Int) (x1 : List S_api_Msg) (a2 : Int) (x11 : List (List UInt8)) (x12 : List UInt8) (x13 : Int) : Option (((List (List UInt8)) × Int × Int × Unit) × Unit) :=
  fn_pack_Pack n [.r, .r, .r, .l, .l, .inn m0, .r, .l, .r, .l, .l, .at m] [(0, .one (.int .i64 a0)), (1, .one (.sl 29 x1 .ro)), (2, .one (.int .i64 a2)), (11, .one (.sl 9 x11 .app)), (12, .one (.str x12)), (13, .one (.int .i64 x13))]
def sg_law27_awake : Sig τ := ⟨[], [T_bool]⟩
def ad_law27_awake : Adv := ⟨58, [[], [1], [1, 2, 3, 4], [2, 3, 4, 6, 7], [0]], [], [999999]⟩
noncomputable def es_law27_awake : List (Ent U) := [e_pack_Pack]
noncomputable def g_law27_awake : Unit → Option ((Bool × Unit) × Unit) := runFn (U := U) Tryz.prog es_law27_awake ad_law27_awake 0 Tryz.f29 sg_law27_awake
noncomputable def e_law27_awake : Ent U := ⟨29, sg_law27_awake, g_law27_awake⟩
def sg_law27_PackGreedy : Sig τ := ⟨[(false, T_uint8), (false, T_list_api_Msg), (false, T_uint16)], [T_bool]⟩
def ad_law27_PackGreedy : Adv := ⟨97, [[0, 1, 2], [0, 1, 2, 19], [6], [1, 2, 7], [1, 2, 7, 8, 10], [1, 2, 7, 8, 35], [6], [1, 2, 7, 8, 11], [1, 2, 7, 8, 11, 12], [1, 2, 7, 8, 11, 12, 44], [1, 2, 7, 8, 11, 12], [1, 2, 7, 8, 11, 12, 13, 15], [1, 2, 7, 8, 11, 12, 13, 15, 16], [1, 2, 7, 8, 11, 12, 16, 73], [6], [1, 2, 7, 8, 12, 16, 88], [6], [1, 2, 7, 8, 11, 12], [6]], [], []⟩
noncomputable def es_law27_PackGreedy : List (Ent U) := [e_ref07_FewAll, e_law27_awake, e_pack_Pack, e_ref26_Parse, e_pack_Fits]
noncomputable def h_law27_PackGreedy (n : Nat) : Int × (List S_api_Msg) × Int × Unit → Option ((Bool × Unit) × Unit) := runFn (U := U) Tryz.prog es_law27_PackGreedy ad_law27_PackGreedy n Tryz.f8 sg_law27_PackGreedy
noncomputable def g_law27_PackGreedy : Int × (List S_api_Msg) × Int × Unit → Option ((Bool × Unit) × Unit) := h_law27_PackGreedy fuel
noncomputable def e_law27_PackGreedy : Ent U := ⟨8, sg_law27_PackGreedy, g_law27_PackGreedy⟩
noncomputable def fn_law27_PackGreedy := lp (tab es_law27_PackGreedy) ad_law27_PackGreedy Tryz.f8 0 sg_law27_PackGreedy
noncomputable def L_law27_PackGreedy_0 (n m : Nat) (a1 : List S_api_Msg) (a2 : Int) (r3 : ((List (List UInt8)) × Int × Int × Unit) × Unit) (x7 : Int) (x11 : Int) (x12 : Int) : Option ((Bool × Unit) × Unit) :=
  fn_law27_PackGreedy n [.r, .r, .r, .r, .r, .r, .l, .r, .l, .at m] [(1, .one (.sl 29 a1 .ro)), (2, .one (.int .u16 a2)), (7, .one (.int .i64 x7)), (8, .one (.sl 9 r3.1.1 .ro)), (11, .one (.int .i64 x11)), (12, .one (.int .i64 x12))]
end Go.VI
