import Derived.Test.YtjdlhgdklmkkhaaGreatG1FTy
import Derived.Test.YtjdlhgdklmkkhaaGreatG1XM
set_option linter.unusedVariables false
set_option linter.unusedSimpArgs false
set_option maxRecDepth 1000000
set_option maxHeartbeats 4000000
namespace Go.VI
open Go Go.Proofs
def sg_ref07_Few : Sig τ := ⟨[(false, T_api_Msg)], [T_bool]⟩
def ad_ref07_Few : Adv := ⟨81, [[1], [1, 50], [2], [1, 3], [1, 3, 55], [1, 3], [1, 3, 65], [2], [1, 4], [1, 4, 70], [1, 4], [1, 4, 80], [2], [2]], [], []⟩
noncomputable def es_ref07_Few : List (Ent U) := []
noncomputable def h_ref07_Few (n : Nat) : S_api_Msg × Unit → Option ((Bool × Unit) × Unit) := runFn (U := U) Tryz.prog es_ref07_Few ad_ref07_Few n Tryz.f25 sg_ref07_Few
noncomputable def g_ref07_Few : S_api_Msg × Unit → Option ((Bool × Unit) × Unit) := h_ref07_Few fuel
noncomputable def e_ref07_Few : Ent U := ⟨25, sg_ref07_Few, g_ref07_Few⟩
noncomputable def fn_ref07_Few := lp (tab es_ref07_Few) ad_ref07_Few Tryz.f25 0 sg_ref07_Few
noncomputable def L_ref07_Few_0 (n m : Nat) (a0 : S_api_Msg) (x3 : Int) : Option ((Bool × Unit) × Unit) :=
  fn_ref07_Few n [.r, .r, .l, .r, .l, .at m] [(1, .box [.int .i64 a0.kind, .int .i64 a0.cmd, .int .i64 a0.ver, .str a0.auth, .int .i64 a0.family, .int .i64 a0.ae, .str a0.prefix_, .int .i64 a0.plen, .int .i64 a0.tag, .str a0.next, .int .i64 a0.metric, .str a0.id, .int .i64 a0.seq, .int .i64 a0.seq2, .int .i64 a0.interval, .int .i64 a0.flags, .int .i64 a0.hops, .int .i64 a0.nonce, .int .i64 a0.cost, .str a0.addr, .str a0.orig, .sl 94 a0.list .ro, .int .i64 a0.type_, .str a0.data, .sl 96 a0.subs .ro]), (3, .one (.int .i64 x3))]
noncomputable def L_ref07_Few_1 (n m : Nat) (a0 : S_api_Msg) (x4 : Int) : Option ((Bool × Unit) × Unit) :=
  fn_ref07_Few n [.r, .r, .r, .l, .r, .l, .at m] [(1, .box [.int .i64 a0.kind, .int .i64 a0.cmd, .int .i64 a0.ver, .str a0.auth, .int .i64 a0.family, .int .i64 a0.ae, .str a0.prefix_, .int .i64 a0.plen, .int .i64 a0.tag, .str a0.next, .int .i64 a0.metric, .str a0.id, .int .i64 a0.seq, .int .i64 a0.seq2, .int .i64 a0.interval, .int .i64 a0.flags, .int .i64 a0.hops, .int .i64 a0.nonce, .int .i64 a0.cost, .str a0.addr, .str a0.orig, .sl 94 a0.list .ro, .int .i64 a0.type_, .str a0.data, .sl 96 a0.subs .ro]), (4, .one (.int .i64 x4))]
def sg_ref07_FewAll : Sig τ := ⟨[(false, T_list_api_Msg), (false, T_int)], [T_bool]⟩
def ad_ref07_FewAll : Adv := ⟨22, [[0, 1], [0, 9], [4], [0, 5], [0, 5, 13], [0, 5], [0, 5, 21], [4], [4]], [], []⟩
noncomputable def es_ref07_FewAll : List (Ent U) := [e_ref07_Few]
noncomputable def h_ref07_FewAll (n : Nat) : (List S_api_Msg) × Int × Unit → Option ((Bool × Unit) × Unit) := runFn (U := U) Tryz.prog es_ref07_FewAll ad_ref07_FewAll n Tryz.f14 sg_ref07_FewAll
noncomputable def g_ref07_FewAll : (List S_api_Msg) × Int × Unit → Option ((Bool × Unit) × Unit) := h_ref07_FewAll fuel
noncomputable def e_ref07_FewAll : Ent U := ⟨14, sg_ref07_FewAll, g_ref07_FewAll⟩
noncomputable def fn_ref07_FewAll := lp (tab es_ref07_FewAll) ad_ref07_FewAll Tryz.f14 0 sg_ref07_FewAll
noncomputable def L_ref07_FewAll_0 (n m : Nat) (a0 : List S_api_Msg) (x5 : Int) : Option ((Bool × Unit) × Unit) :=
  fn_ref07_FewAll n [.r, .r, .l, .r, .l, .at m] [(0, .one (.sl 77 a0 .ro)), (5, .one (.int .i64 x5))]
def sg_ref07_dests : Sig τ := ⟨[(false, T_list_api_Dest), (false, T_list_api_Dest)], [T_bool]⟩
def ad_ref07_dests : Adv := ⟨26, [[0, 1], [0, 1, 10], [4], [0, 1, 5], [0, 1, 5, 14], [0, 1, 5], [0, 1, 5, 25], [4], [4]], [], []⟩
noncomputable def es_ref07_dests : List (Ent U) := []
noncomputable def h_ref07_dests (n : Nat) : (List S_api_Dest) × (List S_api_Dest) × Unit → Option ((Bool × Unit) × Unit) := runFn (U := U) Tryz.prog es_ref07_dests ad_ref07_dests n Tryz.f49 sg_ref07_dests
noncomputable def g_ref07_dests : (List S_api_Dest) × (List S_api_Dest) × Unit → Option ((Bool × Unit) × Unit) := h_ref07_dests fuel
noncomputable def e_ref07_dests : Ent U := ⟨49, sg_ref07_dests, g_ref07_dests⟩
noncomputable def fn_ref07_dests := lp (tab es_ref07_dests) ad_ref07_dests Tryz.f49 0 sg_ref07_dests
noncomputable def L_ref07_dests_0 (n m : Nat) (a0 : List S_api_Dest) (a1 : List S_api_Dest) (x5 : Int) : Option ((Bool × Unit) × Unit) :=
  fn_ref07_dests n [.r, .r, .l, .r, .l, .at m] [(0, .one (.sl 94 a0 .ro)), (1, .one (.sl 94 a1 .ro)), (5, .one (.int .i64 x5))]
def sg_ref07_subs : Sig τ := ⟨[(false, T_list_api_Sub), (false, T_list_api_Sub)], [T_bool]⟩
def ad_ref07_subs : Adv := ⟨26, [[0, 1], [0, 1, 10], [4], [0, 1, 5], [0, 1, 5, 14], [0, 1, 5], [0, 1, 5, 25], [4], [4]], [], []⟩
noncomputable def es_ref07_subs : List (Ent U) := []
noncomputable def h_ref07_subs (n : Nat) : (List S_api_Sub) × (List S_api_Sub) × Unit → Option ((Bool × Unit) × Unit) := runFn (U := U) Tryz.prog es_ref07_subs ad_ref07_subs n Tryz.f50 sg_ref07_subs
noncomputable def g_ref07_subs : (List S_api_Sub) × (List S_api_Sub) × Unit → Option ((Bool × Unit) × Unit) := h_ref07_subs fuel
noncomputable def e_ref07_subs : Ent U := ⟨50, sg_ref07_subs, g_ref07_subs⟩
noncomputable def fn_ref07_subs := lp (tab es_ref07_subs) ad_ref07_subs Tryz.f50 0 sg_ref07_subs
noncomputable def L_ref07_subs_0 (n m : Nat) (a0 : List S_api_Sub) (a1 : List S_api_Sub) (x5 : Int) : Option ((Bool × Unit) × Unit) :=
  fn_ref07_subs n [.r, .r, .l, .r, .l, .at m] [(0, .one (.sl 96 a0 .ro)), (1, .one (.sl 96 a1 .ro)), (5, .one (.int .i64 x5))]
def sg_ref07_Same : Sig τ := ⟨[(false, T_api_Msg), (false, T_api_Msg)], [T_bool]⟩
def ad_ref07_Same : Adv := ⟨174, [[2, 3], [2, 3, 79], [4], [2, 3, 161], [4], [4]], [], []⟩
noncomputable def es_ref07_Same : List (Ent U) := [e_ref07_dests, e_ref07_subs]
noncomputable def g_ref07_Same : S_api_Msg × S_api_Msg × Unit → Option ((Bool × Unit) × Unit) := runFn (U := U) Tryz.prog es_ref07_Same ad_ref07_Same 0 Tryz.f31 sg_ref07_Same
noncomputable def e_ref07_Same : Ent U := ⟨31, sg_ref07_Same, g_ref07_Same⟩
def sg_sync_atomic_Bool_Load : Sig τ := ⟨[(true, T_atomic_Bool)], [T_bool]⟩
noncomputable def g_sync_atomic_Bool_Load : S_atomic_Bool × Unit → Option ((Bool × Unit) × (S_atomic_Bool × Unit)) := x_sync_atomic_Bool_Load
noncomputable def e_sync_atomic_Bool_Load : Ent U := ⟨28, sg_sync_atomic_Bool_Load, g_sync_atomic_Bool_Load⟩
def sg_msg_strip : Sig τ := ⟨[(false, T_api_Msg)], [T_msg_plain]⟩
def ad_msg_strip : Adv := ⟨50, [[1, 2], [2]], [], []⟩
noncomputable def es_msg_strip : List (Ent U) := []
noncomputable def g_msg_strip : S_api_Msg × Unit → Option ((S_msg_plain × Unit) × Unit) := runFn (U := U) Tryz.prog es_msg_strip ad_msg_strip 0 Tryz.f183 sg_msg_strip
noncomputable def e_msg_strip : Ent U := ⟨183, sg_msg_strip, g_msg_strip⟩
def sg_msg_Bare : Sig τ := ⟨[(false, T_api_Msg)], [T_bool]⟩
def ad_msg_Bare : Adv := ⟨116, [[1], [1, 3], [1, 3, 4, 5], [1, 3, 4, 5, 13], [2], [1, 3, 4, 5, 13, 14], [1, 3, 4, 5, 13, 14], [1, 3, 4], [1, 3, 4, 25], [1, 3, 4], [1, 3, 4, 5], [1, 3, 4, 5, 13, 33], [1, 3, 4, 5], [1, 3, 4, 5, 13, 42], [1, 3, 4, 5], [1, 3, 4, 5, 13, 51], [1, 3, 4, 5], [1, 3, 4, 5, 13, 54], [1, 3, 4, 5, 13, 56], [1, 3, 4, 5], [1, 3, 4, 5, 13, 60], [1, 3, 4, 5], [1, 3, 4, 5, 13, 63], [1, 3, 4, 5], [1, 3, 4, 5, 13, 68], [1, 3, 4, 5], [1, 3, 4, 5, 13, 74], [1, 3, 4, 5], [1, 3, 4, 5, 13, 84], [1, 3, 4, 5], [1, 3, 4, 5, 13, 89], [1, 3, 4, 5], [1, 3, 4, 97], [1, 3, 4], [1, 3, 4, 5], [2]], [], []⟩
noncomputable def es_msg_Bare : List (Ent U) := [e_msg_strip]
noncomputable def g_msg_Bare : S_api_Msg × Unit → Option ((Bool × Unit) × Unit) := runFn (U := U) Tryz.prog es_msg_Bare ad_msg_Bare 0 Tryz.f121 sg_msg_Bare
noncomputable def e_msg_Bare : Ent U := ⟨121, sg_msg_Bare, g_msg_Bare⟩
def sg_rip_four : Sig τ := ⟨[(false, T_string)], [T_bool]⟩
def ad_rip_four : Adv := ⟨6, [[0], [2]], [], []⟩
noncomputable def es_rip_four : List (Ent U) := []
noncomputable def g_rip_four : (List UInt8) × Unit → Option ((Bool × Unit) × Unit) := runFn (U := U) Tryz.prog es_rip_four ad_rip_four 0 Tryz.f122 sg_rip_four
noncomputable def e_rip_four : Ent U := ⟨122, sg_rip_four, g_rip_four⟩
def sg_octet_Zero : Sig τ := ⟨[(false, T_string)], [T_bool]⟩
def ad_octet_Zero : Adv := ⟨15, [[0], [6, 7, 8], [6, 7, 8, 9], [4, 6, 7, 8], [6, 7, 8, 13], [2], [6, 7, 8], [2]], [], []⟩
noncomputable def es_octet_Zero : List (Ent U) := []
noncomputable def h_octet_Zero (n : Nat) : (List UInt8) × Unit → Option ((Bool × Unit) × Unit) := runFn (U := U) Tryz.prog es_octet_Zero ad_octet_Zero n Tryz.f123 sg_octet_Zero
noncomputable def g_octet_Zero : (List UInt8) × Unit → Option ((Bool × Unit) × Unit) := h_octet_Zero fuel
noncomputable def e_octet_Zero : Ent U := ⟨123, sg_octet_Zero, g_octet_Zero⟩
noncomputable def fn_octet_Zero := lp (tab es_octet_Zero) ad_octet_Zero Tryz.f123 0 sg_octet_Zero
noncomputable def L_octet_Zero_0 (n m : Nat) (a0 : List UInt8) (x8 : Int) : Option ((Bool × Unit) × Unit) :=
  fn_octet_Zero n [.r, .l, .r, .l, .at m] [(6, .one (.bs 5 a0 .app)), (7, .one (.int .i64 (a0.length : Int))), (8, .one (.int .i64 x8))]
def sg_octet_Fits : Sig τ := ⟨[(false, T_int), (false, T_int)], [T_bool]⟩
def ad_octet_Fits : Adv := ⟨23, [[0, 1], [4]], [], []⟩
noncomputable def es_octet_Fits : List (Ent U) := []
noncomputable def g_octet_Fits : Int × Int × Unit → Option ((Bool × Unit) × Unit) := runFn (U := U) Tryz.prog es_octet_Fits ad_octet_Fits 0 Tryz.f124 sg_octet_Fits
noncomputable def e_octet_Fits : Ent U := ⟨124, sg_octet_Fits, g_octet_Fits⟩
def sg_bits_Keep : Sig τ := ⟨[(false, T_string), (false, T_int)], [T_string]⟩
def ad_bits_Keep : Adv := ⟨40, [[0, 1], [0, 1, 11], [4], [0, 1, 5], [0, 1, 5, 17], [4], [0, 1, 5, 6], [0, 1, 5, 6], [5], [4]], [], []⟩
noncomputable def es_bits_Keep : List (Ent U) := []
noncomputable def g_bits_Keep : (List UInt8) × Int × Unit → Option (((List UInt8) × Unit) × Unit) := runFn (U := U) Tryz.prog es_bits_Keep ad_bits_Keep 0 Tryz.f242 sg_bits_Keep
noncomputable def e_bits_Keep : Ent U := ⟨242, sg_bits_Keep, g_bits_Keep⟩
def sg_bits_Clean : Sig τ := ⟨[(false, T_string), (false, T_int)], [T_bool]⟩
def ad_bits_Clean : Adv := ⟨10, [[0, 1], [4]], [], []⟩
noncomputable def es_bits_Clean : List (Ent U) := [e_bits_Keep]
noncomputable def g_bits_Clean : (List UInt8) × Int × Unit → Option ((Bool × Unit) × Unit) := runFn (U := U) Tryz.prog es_bits_Clean ad_bits_Clean 0 Tryz.f184 sg_bits_Clean
noncomputable def e_bits_Clean : Ent U := ⟨184, sg_bits_Clean, g_bits_Clean⟩
def sg_prefix_Right : Sig τ := ⟨[(false, T_string), (false, T_int)], [T_bool]⟩
def ad_prefix_Right : Adv := ⟨29, [[0, 1], [0, 1, 5], [4]], [], []⟩
noncomputable def es_prefix_Right : List (Ent U) := [e_bits_Clean]
noncomputable def g_prefix_Right : (List UInt8) × Int × Unit → Option ((Bool × Unit) × Unit) := runFn (U := U) Tryz.prog es_prefix_Right ad_prefix_Right 0 Tryz.f125 sg_prefix_Right
noncomputable def e_prefix_Right : Ent U := ⟨125, sg_prefix_Right, g_prefix_Right⟩
def sg_rip_Right : Sig τ := ⟨[(false, T_api_Msg)], [T_bool]⟩
def ad_rip_Right : Adv := ⟨129, [[1], [1, 3], [2], [1, 24], [2], [1, 43], [2], [1, 58], [2], [1, 88], [2], [1, 102], [2], [2]], [], []⟩
noncomputable def es_rip_Right : List (Ent U) := [e_msg_Bare, e_rip_four, e_octet_Zero, e_octet_Fits, e_prefix_Right]
noncomputable def g_rip_Right : S_api_Msg × Unit → Option ((Bool × Unit) × Unit) := runFn (U := U) Tryz.prog es_rip_Right ad_rip_Right 0 Tryz.f75 sg_rip_Right
noncomputable def e_rip_Right : Ent U := ⟨75, sg_rip_Right, g_rip_Right⟩
def sg_octet_Zeros : Sig τ := ⟨[(false, T_int)], [T_string]⟩
def ad_octet_Zeros : Adv := ⟨7, [[0], [2]], [], []⟩
noncomputable def es_octet_Zeros : List (Ent U) := []
noncomputable def g_octet_Zeros : Int × Unit → Option (((List UInt8) × Unit) × Unit) := runFn (U := U) Tryz.prog es_octet_Zeros ad_octet_Zeros 0 Tryz.f133 sg_octet_Zeros
noncomputable def e_octet_Zeros : Ent U := ⟨133, sg_octet_Zeros, g_octet_Zeros⟩
def sg_internal_stringslite_HasPrefix : Sig τ := ⟨[(false, T_string), (false, T_string)], [T_bool]⟩
def ad_internal_stringslite_HasPrefix : Adv := ⟨18, [[0, 1], [4]], [], []⟩
noncomputable def es_internal_stringslite_HasPrefix : List (Ent U) := []
noncomputable def g_internal_stringslite_HasPrefix : (List UInt8) × (List UInt8) × Unit → Option ((Bool × Unit) × Unit) := runFn (U := U) Tryz.prog es_internal_stringslite_HasPrefix ad_internal_stringslite_HasPrefix 0 Tryz.f247 sg_internal_stringslite_HasPrefix
noncomputable def e_internal_stringslite_HasPrefix : Ent U := ⟨247, sg_internal_stringslite_HasPrefix, g_internal_stringslite_HasPrefix⟩
def sg_strings_HasPrefix : Sig τ := ⟨[(false, T_string), (false, T_string)], [T_bool]⟩
def ad_strings_HasPrefix : Adv := ⟨8, [[0, 1], [4]], [], []⟩
noncomputable def es_strings_HasPrefix : List (Ent U) := [e_internal_stringslite_HasPrefix]
noncomputable def g_strings_HasPrefix : (List UInt8) × (List UInt8) × Unit → Option ((Bool × Unit) × Unit) := runFn (U := U) Tryz.prog es_strings_HasPrefix ad_strings_HasPrefix 0 Tryz.f192 sg_strings_HasPrefix
noncomputable def e_strings_HasPrefix : Ent U := ⟨192, sg_strings_HasPrefix, g_strings_HasPrefix⟩
def sg_addr_Link : Sig τ := ⟨[(false, T_string)], [T_bool]⟩
def ad_addr_Link : Adv := ⟨10, [[0], [2]], [], []⟩
noncomputable def es_addr_Link : List (Ent U) := [e_strings_HasPrefix]
noncomputable def g_addr_Link : (List UInt8) × Unit → Option ((Bool × Unit) × Unit) := runFn (U := U) Tryz.prog es_addr_Link ad_addr_Link 0 Tryz.f134 sg_addr_Link
noncomputable def e_addr_Link : Ent U := ⟨134, sg_addr_Link, g_addr_Link⟩
def sg_ripng_Right : Sig τ := ⟨[(false, T_api_Msg)], [T_bool]⟩
def ad_ripng_Right : Adv := ⟨60, [[1], [1, 3], [2], [1, 28], [2], [2]], [], []⟩
noncomputable def es_ripng_Right : List (Ent U) := [e_msg_Bare, e_octet_Fits, e_prefix_Right, e_octet_Zeros, e_addr_Link]
noncomputable def g_ripng_Right : S_api_Msg × Unit → Option ((Bool × Unit) × Unit) := runFn (U := U) Tryz.prog es_ripng_Right ad_ripng_Right 0 Tryz.f78 sg_ripng_Right
noncomputable def e_ripng_Right : Ent U := ⟨78, sg_ripng_Right, g_ripng_Right⟩
def sg_msg_Subs : Sig τ := ⟨[(false, T_list_api_Sub), (false, T_int), (false, T_int)], [T_bool]⟩
def ad_msg_Subs : Adv := ⟨32, [[0, 1, 2], [1, 2, 9, 10, 11], [1, 2, 9, 10, 11, 12], [1, 2, 8, 9, 10, 11], [1, 2, 9, 10, 11, 30], [6], [1, 2, 9, 10, 11], [6]], [], []⟩
noncomputable def es_msg_Subs : List (Ent U) := []
noncomputable def h_msg_Subs (n : Nat) : (List S_api_Sub) × Int × Int × Unit → Option ((Bool × Unit) × Unit) := runFn (U := U) Tryz.prog es_msg_Subs ad_msg_Subs n Tryz.f249 sg_msg_Subs
noncomputable def g_msg_Subs : (List S_api_Sub) × Int × Int × Unit → Option ((Bool × Unit) × Unit) := h_msg_Subs fuel
noncomputable def e_msg_Subs : Ent U := ⟨249, sg_msg_Subs, g_msg_Subs⟩
noncomputable def fn_msg_Subs := lp (tab es_msg_Subs) ad_msg_Subs Tryz.f249 0 sg_msg_Subs
noncomputable def L_msg_Subs_0 (n m : Nat) (a1 : Int) (a2 : Int) (a0 : List S_api_Sub) (x11 : Int) : Option ((Bool × Unit) × Unit) :=
  fn_msg_Subs n [.r, .l, .r, .l, .at m] [(1, .one (.int .i64 a1)), (2, .one (.int .i64 a2)), (9, .one (.sl 96 a0 .ro)), (10, .one (.int .i64 (a0.length : Int))), (11, .one (.int .i64 x11))]
def sg_ext_Right : Sig τ := ⟨[(false, T_list_api_Sub)], [T_bool]⟩
def ad_ext_Right : Adv := ⟨5, [[0], [2]], [], []⟩
noncomputable def es_ext_Right : List (Ent U) := [e_msg_Subs]
noncomputable def g_ext_Right : (List S_api_Sub) × Unit → Option ((Bool × Unit) × Unit) := runFn (U := U) Tryz.prog es_ext_Right ad_ext_Right 0 Tryz.f195 sg_ext_Right
noncomputable def e_ext_Right : Ent U := ⟨195, sg_ext_Right, g_ext_Right⟩
def sg_rreq_Right : Sig τ := ⟨[(false, T_api_Msg)], [T_bool]⟩
def ad_rreq_Right : Adv := ⟨59, [[1], [1, 34], [2], [1, 41, 42, 43], [1, 41, 42, 43, 44], [1, 4, 41, 42, 43], [1, 41, 42, 43, 49], [2], [1, 41, 42, 43], [2]], [], []⟩
noncomputable def es_rreq_Right : List (Ent U) := [e_msg_Bare, e_octet_Fits, e_ext_Right]
noncomputable def h_rreq_Right (n : Nat) : S_api_Msg × Unit → Option ((Bool × Unit) × Unit) := runFn (U := U) Tryz.prog es_rreq_Right ad_rreq_Right n Tryz.f139 sg_rreq_Right
noncomputable def g_rreq_Right : S_api_Msg × Unit → Option ((Bool × Unit) × Unit) := h_rreq_Right fuel
noncomputable def e_rreq_Right : Ent U := ⟨139, sg_rreq_Right, g_rreq_Right⟩
noncomputable def fn_rreq_Right := lp (tab es_rreq_Right) ad_rreq_Right Tryz.f139 0 sg_rreq_Right
noncomputable def L_rreq_Right_0 (n m : Nat) (a0 : S_api_Msg) (x41 : List Int) (x42 : Int) (x43 : Int) : Option ((Bool × Unit) × Unit) :=
  fn_rreq_Right n [.r, .r, .l, .r, .l, .at m] [(1, .box [.int .i64 a0.kind, .int .i64 a0.cmd, .int .i64 a0.ver, .str a0.auth, .int .i64 a0.family, .int .i64 a0.ae, .str a0.prefix_, .int .i64 a0.plen, .int .i64 a0.tag, .str a0.next, .int .i64 a0.metric, .str a0.id, .int .i64 a0.seq, .int .i64 a0.seq2, .int .i64 a0.interval, .int .i64 a0.flags, .int .i64 a0.hops, .int .i64 a0.nonce, .int .i64 a0.cost, .str a0.addr, .str a0.orig, .sl 94 a0.list .ro, .int .i64 a0.type_, .str a0.data, .sl 96 a0.subs .ro]), (41, .one (.sl 3 x41 .app)), (42, .one (.int .i64 x42)), (43, .one (.int .i64 x43))]
def sg_rrep_Right : Sig τ := ⟨[(false, T_api_Msg)], [T_bool]⟩
def ad_rrep_Right : Adv := ⟨63, [[1], [1, 11], [2], [1, 13], [1, 13, 14], [2], [1, 16], [2], [2]], [], []⟩
noncomputable def es_rrep_Right : List (Ent U) := [e_msg_Bare, e_ext_Right, e_octet_Fits]
noncomputable def g_rrep_Right : S_api_Msg × Unit → Option ((Bool × Unit) × Unit) := runFn (U := U) Tryz.prog es_rrep_Right ad_rrep_Right 0 Tryz.f140 sg_rrep_Right
noncomputable def e_rrep_Right : Ent U := ⟨140, sg_rrep_Right, g_rrep_Right⟩
def sg_rerr_Right : Sig τ := ⟨[(false, T_api_Msg)], [T_bool]⟩
def ad_rerr_Right : Adv := ⟨56, [[1], [1, 34], [2], [1, 36, 37, 38], [1, 36, 37, 38, 39], [1, 4, 36, 37, 38], [1, 36, 37, 38, 51], [2], [1, 36, 37, 38], [2]], [], []⟩
noncomputable def es_rerr_Right : List (Ent U) := [e_msg_Bare, e_octet_Fits, e_ext_Right]
noncomputable def h_rerr_Right (n : Nat) : S_api_Msg × Unit → Option ((Bool × Unit) × Unit) := runFn (U := U) Tryz.prog es_rerr_Right ad_rerr_Right n Tryz.f141 sg_rerr_Right
noncomputable def g_rerr_Right : S_api_Msg × Unit → Option ((Bool × Unit) × Unit) := h_rerr_Right fuel
noncomputable def e_rerr_Right : Ent U := ⟨141, sg_rerr_Right, g_rerr_Right⟩
noncomputable def fn_rerr_Right := lp (tab es_rerr_Right) ad_rerr_Right Tryz.f141 0 sg_rerr_Right
noncomputable def L_rerr_Right_0 (n m : Nat) (a0 : S_api_Msg) (x38 : Int) : Option ((Bool × Unit) × Unit) :=
  fn_rerr_Right n [.r, .r, .l, .r, .l, .at m] [(1, .box [.int .i64 a0.kind, .int .i64 a0.cmd, .int .i64 a0.ver, .str a0.auth, .int .i64 a0.family, .int .i64 a0.ae, .str a0.prefix_, .int .i64 a0.plen, .int .i64 a0.tag, .str a0.next, .int .i64 a0.metric, .str a0.id, .int .i64 a0.seq, .int .i64 a0.seq2, .int .i64 a0.interval, .int .i64 a0.flags, .int .i64 a0.hops, .int .i64 a0.nonce, .int .i64 a0.cost, .str a0.addr, .str a0.orig, .sl 94 a0.list .ro, .int .i64 a0.type_, .str a0.data, .sl 96 a0.subs .ro]), (36, .one (.sl 94 a0.list .ro)), (37, .one (.int .i64 (a0.list.length : Int))), (38, .one (.int .i64 x38))]
def sg_aodv_Right : Sig τ := ⟨[(false, T_api_Msg)], [T_bool]⟩
def ad_aodv_Right : Adv := ⟨13, [[1], [2]], [], []⟩
noncomputable def es_aodv_Right : List (Ent U) := [e_rreq_Right, e_rrep_Right, e_rerr_Right]
noncomputable def g_aodv_Right : S_api_Msg × Unit → Option ((Bool × Unit) × Unit) := runFn (U := U) Tryz.prog es_aodv_Right ad_aodv_Right 0 Tryz.f81 sg_aodv_Right
noncomputable def e_aodv_Right : Ent U := ⟨81, sg_aodv_Right, g_aodv_Right⟩
def sg_msg_Bytes : Sig τ := ⟨[(false, T_list_api_Sub)], [T_int]⟩
def ad_msg_Bytes : Adv := ⟨20, [[0], [0, 3], [3, 6, 7, 8], [3, 6, 7, 8, 9], [3, 5, 6, 7, 8], [3, 6, 7, 8], [3, 6, 7, 8], [2]], [], []⟩
noncomputable def es_msg_Bytes : List (Ent U) := []
noncomputable def h_msg_Bytes (n : Nat) : (List S_api_Sub) × Unit → Option ((Int × Unit) × Unit) := runFn (U := U) Tryz.prog es_msg_Bytes ad_msg_Bytes n Tryz.f252 sg_msg_Bytes
noncomputable def g_msg_Bytes : (List S_api_Sub) × Unit → Option ((Int × Unit) × Unit) := h_msg_Bytes fuel
noncomputable def e_msg_Bytes : Ent U := ⟨252, sg_msg_Bytes, g_msg_Bytes⟩
noncomputable def fn_msg_Bytes := lp (tab es_msg_Bytes) ad_msg_Bytes Tryz.f252 0 sg_msg_Bytes
noncomputable def L_msg_Bytes_0 (n m : Nat) (a0 : List S_api_Sub) (x3 : Int) (x8 : Int) : Option ((Int × Unit) × Unit) :=
  fn_msg_Bytes n [.r, .r, .l, .r, .l, .at m] [(3, .one (.int .i64 x3)), (6, .one (.sl 96 a0 .ro)), (7, .one (.int .i64 (a0.length : Int))), (8, .one (.int .i64 x8))]
def sg_sub_Right : Sig τ := ⟨[(false, T_list_api_Sub)], [T_bool]⟩
def ad_sub_Right : Adv := ⟨10, [[0], [2]], [], []⟩
noncomputable def es_sub_Right : List (Ent U) := [e_msg_Subs, e_msg_Bytes]
noncomputable def g_sub_Right : (List S_api_Sub) × Unit → Option ((Bool × Unit) × Unit) := runFn (U := U) Tryz.prog es_sub_Right ad_sub_Right 0 Tryz.f202 sg_sub_Right
noncomputable def e_sub_Right : Ent U := ⟨202, sg_sub_Right, g_sub_Right⟩
def sg_route_shapes : Sig τ := ⟨[], [T_4_route_shape]⟩
def ad_route_shapes : Adv := ⟨6, [[0], [0]], [], []⟩
noncomputable def es_route_shapes : List (Ent U) := []
noncomputable def g_route_shapes : Unit → Option ((S_4_route_shape × Unit) × Unit) := runFn (U := U) Tryz.prog es_route_shapes ad_route_shapes 0 Tryz.f253 sg_route_shapes
noncomputable def e_route_shapes : Ent U := ⟨253, sg_route_shapes, g_route_shapes⟩
def sg_route_In : Sig τ := ⟨[(false, T_int), (false, T_string), (false, T_int)], [T_bool]⟩
def ad_route_In : Adv := ⟨47, [[0, 1, 2], [0, 1, 2, 13], [6], [0, 1, 2, 7], [6]], [], []⟩
noncomputable def es_route_In : List (Ent U) := [e_route_shapes, e_bits_Clean, e_addr_Link]
noncomputable def g_route_In : Int × (List UInt8) × Int × Unit → Option ((Bool × Unit) × Unit) := runFn (U := U) Tryz.prog es_route_In ad_route_In 0 Tryz.f203 sg_route_In
noncomputable def e_route_In : Ent U := ⟨203, sg_route_In, g_route_In⟩
def sg_addr_Family : Sig τ := ⟨[(false, T_string)], [T_int]⟩
def ad_addr_Family : Adv := ⟨9, [[0], [4], [4, 5], [2], [7], [2], [2]], [], []⟩
noncomputable def es_addr_Family : List (Ent U) := []
noncomputable def g_addr_Family : (List UInt8) × Unit → Option ((Int × Unit) × Unit) := runFn (U := U) Tryz.prog es_addr_Family ad_addr_Family 0 Tryz.f205 sg_addr_Family
noncomputable def e_addr_Family : Ent U := ⟨205, sg_addr_Family, g_addr_Family⟩
def sg_ctx_Family : Sig τ := ⟨[(false, T_int)], [T_int]⟩
def ad_ctx_Family : Adv := ⟨9, [[0], [3], [3, 4], [2], [3, 6], [6], [2], [2]], [], []⟩
noncomputable def es_ctx_Family : List (Ent U) := []
noncomputable def g_ctx_Family : Int × Unit → Option ((Int × Unit) × Unit) := runFn (U := U) Tryz.prog es_ctx_Family ad_ctx_Family 0 Tryz.f206 sg_ctx_Family
noncomputable def e_ctx_Family : Ent U := ⟨206, sg_ctx_Family, g_ctx_Family⟩
def sg_ctx_either : Sig τ := ⟨[(false, T_string), (false, T_bool)], [T_bool]⟩
def ad_ctx_either : Adv := ⟨10, [[0, 1], [4]], [], []⟩
noncomputable def es_ctx_either : List (Ent U) := []
noncomputable def g_ctx_either : (List UInt8) × Bool × Unit → Option ((Bool × Unit) × Unit) := runFn (U := U) Tryz.prog es_ctx_either ad_ctx_either 0 Tryz.f204 sg_ctx_either
noncomputable def e_ctx_either : Ent U := ⟨204, sg_ctx_either, g_ctx_either⟩
def sg_ctx_Right : Sig τ := ⟨[(false, T_api_Msg)], [T_bool]⟩
def ad_ctx_Right : Adv := ⟨76, [[1], [1, 3], [2], [1, 28], [2], [1, 45], [2], [2]], [], []⟩
noncomputable def es_ctx_Right : List (Ent U) := [e_msg_Bare, e_sub_Right, e_route_In, e_octet_Fits, e_addr_Family, e_ctx_Family, e_ctx_either]
noncomputable def g_ctx_Right : S_api_Msg × Unit → Option ((Bool × Unit) × Unit) := runFn (U := U) Tryz.prog es_ctx_Right ad_ctx_Right 0 Tryz.f146 sg_ctx_Right
noncomputable def e_ctx_Right : Ent U := ⟨146, sg_ctx_Right, g_ctx_Right⟩
def sg_route_Right : Sig τ := ⟨[(false, T_api_Msg)], [T_bool]⟩
def ad_route_Right : Adv := ⟨52, [[1], [1, 21], [2], [1, 23], [1, 23, 24], [2], [1, 26], [2], [2]], [], []⟩
noncomputable def es_route_Right : List (Ent U) := [e_msg_Bare, e_sub_Right, e_route_In, e_octet_Fits]
noncomputable def g_route_Right : S_api_Msg × Unit → Option ((Bool × Unit) × Unit) := runFn (U := U) Tryz.prog es_route_Right ad_route_Right 0 Tryz.f147 sg_route_Right
noncomputable def e_route_Right : Ent U := ⟨147, sg_route_Right, g_route_Right⟩
def sg_field_address : Sig τ := ⟨[(false, T_int), (false, T_string)], [T_bool]⟩
def ad_field_address : Adv := ⟨26, [[0, 1], [0, 1, 5], [0, 1, 5, 6], [4], [0, 1, 5, 10], [4], [0, 1, 15], [4], [4]], [], []⟩
noncomputable def es_field_address : List (Ent U) := [e_addr_Family, e_addr_Link]
noncomputable def g_field_address : Int × (List UInt8) × Unit → Option ((Bool × Unit) × Unit) := runFn (U := U) Tryz.prog es_field_address ad_field_address 0 Tryz.f207 sg_field_address
noncomputable def e_field_address : Ent U := ⟨207, sg_field_address, g_field_address⟩
def sg_field_Right : Sig τ := ⟨[(false, T_api_Msg)], [T_bool]⟩
def ad_field_Right : Adv := ⟨57, [[1], [1, 13, 14, 15], [1, 13, 14, 15, 16], [1, 4, 13, 14, 15], [1, 13, 14, 15, 21], [2], [1, 13, 14, 15], [1, 31], [2], [1, 33], [1, 33, 34], [1, 33, 34], [2], [1, 37], [2], [2]], [], []⟩
noncomputable def es_field_Right : List (Ent U) := [e_octet_Fits, e_msg_Bare, e_sub_Right, e_field_address]
noncomputable def h_field_Right (n : Nat) : S_api_Msg × Unit → Option ((Bool × Unit) × Unit) := runFn (U := U) Tryz.prog es_field_Right ad_field_Right n Tryz.f148 sg_field_Right
noncomputable def g_field_Right : S_api_Msg × Unit → Option ((Bool × Unit) × Unit) := h_field_Right fuel
noncomputable def e_field_Right : Ent U := ⟨148, sg_field_Right, g_field_Right⟩
noncomputable def fn_field_Right := lp (tab es_field_Right) ad_field_Right Tryz.f148 0 sg_field_Right
noncomputable def L_field_Right_0 (n m : Nat) (a0 : S_api_Msg) (x13 : List Int) (x14 : Int) (x15 : Int) : Option ((Bool × Unit) × Unit) :=
  fn_field_Right n [.r, .l, .r, .l, .at m] [(1, .box [.int .i64 a0.kind, .int .i64 a0.cmd, .int .i64 a0.ver, .str a0.auth, .int .i64 a0.family, .int .i64 a0.ae, .str a0.prefix_, .int .i64 a0.plen, .int .i64 a0.tag, .str a0.next, .int .i64 a0.metric, .str a0.id, .int .i64 a0.seq, .int .i64 a0.seq2, .int .i64 a0.interval, .int .i64 a0.flags, .int .i64 a0.hops, .int .i64 a0.nonce, .int .i64 a0.cost, .str a0.addr, .str a0.orig, .sl 94 a0.list .ro, .int .i64 a0.type_, .str a0.data, .sl 96 a0.subs .ro]), (13, .one (.sl 3 x13 .app)), (14, .one (.int .i64 x14)), (15, .one (.int .i64 x15))]
def sg_lean_Right : Sig τ := ⟨[(false, T_api_Msg)], [T_bool]⟩
def ad_lean_Right : Adv := ⟨36, [[1], [1, 4], [1, 4, 5], [2], [1, 4, 9], [1, 4, 9], [2], [1, 14], [2], [2]], [], []⟩
noncomputable def es_lean_Right : List (Ent U) := [e_ctx_Right, e_route_Right, e_msg_Bare, e_field_Right]
noncomputable def g_lean_Right : S_api_Msg × Unit → Option ((Bool × Unit) × Unit) := runFn (U := U) Tryz.prog es_lean_Right ad_lean_Right 0 Tryz.f84 sg_lean_Right
noncomputable def e_lean_Right : Ent U := ⟨84, sg_lean_Right, g_lean_Right⟩
def sg_suite_Right : Sig τ := ⟨[(false, T_int), (false, T_api_Msg)], [T_bool]⟩
def ad_suite_Right : Adv := ⟨19, [[0, 3], [3, 5, 6], [4]], [], []⟩
noncomputable def es_suite_Right : List (Ent U) := [e_rip_Right, e_ripng_Right, e_aodv_Right, e_lean_Right]
def ad_suite_of : Adv := ⟨18, [[0, 2], [2, 4], [2, 4, 5], [2, 3], [2, 4, 8], [2, 3], [2, 4, 11], [2, 3], [2, 14], [2, 3], [2, 3]], [], [999999]⟩
noncomputable def ph0_suite_Right : Tab U := inl Tryz.prog 44 (tab es_suite_Right) ad_suite_of 0 Tryz.f44 (tab es_suite_Right)
noncomputable def g_suite_Right : Int × S_api_Msg × Unit → Option ((Bool × Unit) × Unit) := runPh (U := U) Tryz.prog ph0_suite_Right ad_suite_Right 0 Tryz.f87 sg_suite_Right
noncomputable def e_suite_Right : Ent U := ⟨87, sg_suite_Right, g_suite_Right⟩
def sg_auth_Put : Sig τ := ⟨[(false, T_string)], [T_string, T_bool]⟩
def ad_auth_Put : Adv := ⟨9, [[0], [0, 6], [2, 3], [2, 3]], [], []⟩
noncomputable def es_auth_Put : List (Ent U) := []
noncomputable def g_auth_Put : (List UInt8) × Unit → Option (((List UInt8) × Bool × Unit) × Unit) := runFn (U := U) Tryz.prog es_auth_Put ad_auth_Put 0 Tryz.f130 sg_auth_Put
noncomputable def e_auth_Put : Ent U := ⟨130, sg_auth_Put, g_auth_Put⟩
def sg_rip_together : Sig τ := ⟨[(false, T_api_Msg), (false, T_api_Msg)], [T_bool]⟩
def ad_rip_together : Adv := ⟨34, [[2, 3], [4]], [], []⟩
noncomputable def es_rip_together : List (Ent U) := []
noncomputable def g_rip_together : S_api_Msg × S_api_Msg × Unit → Option ((Bool × Unit) × Unit) := runFn (U := U) Tryz.prog es_rip_together ad_rip_together 0 Tryz.f131 sg_rip_together
noncomputable def e_rip_together : Ent U := ⟨131, sg_rip_together, g_rip_together⟩
def sg_mask_Of : Sig τ := ⟨[(false, T_int)], [T_string, T_bool]⟩
def ad_mask_Of : Adv := ⟨28, [[0], [0, 10], [2, 3], [4], [2, 3]], [], []⟩
noncomputable def es_mask_Of : List (Ent U) := []
noncomputable def g_mask_Of : Int × Unit → Option (((List UInt8) × Bool × Unit) × Unit) := runFn (U := U) Tryz.prog es_mask_Of ad_mask_Of 0 Tryz.f190 sg_mask_Of
noncomputable def e_mask_Of : Ent U := ⟨190, sg_mask_Of, g_mask_Of⟩
def sg_octet_Put : Sig τ := ⟨[(false, T_int), (false, T_int)], [T_string, T_bool]⟩
def ad_octet_Put : Adv := ⟨29, [[0, 1], [0, 1, 11], [4, 5], [0, 1, 6], [0, 6, 7], [0, 6, 7, 17], [0, 6, 7], [0, 6, 7], [0, 6, 7], [4, 5]], [], []⟩
noncomputable def es_octet_Put : List (Ent U) := [e_octet_Fits]
noncomputable def h_octet_Put (n : Nat) : Int × Int × Unit → Option (((List UInt8) × Bool × Unit) × Unit) := runFn (U := U) Tryz.prog es_octet_Put ad_octet_Put n Tryz.f201 sg_octet_Put
noncomputable def g_octet_Put : Int × Int × Unit → Option (((List UInt8) × Bool × Unit) × Unit) := h_octet_Put fuel
noncomputable def e_octet_Put : Ent U := ⟨201, sg_octet_Put, g_octet_Put⟩
noncomputable def fn_octet_Put := lp (tab es_octet_Put) ad_octet_Put Tryz.f201 0 sg_octet_Put
noncomputable def L_octet_Put_0 (n m : Nat) (x0 : Int) (x7 : Int) (x13 : List UInt8) : Option (((List UInt8) × Bool × Unit) × Unit) :=
  fn_octet_Put n [.r, .r, .r, .l, .r, .l, .at m] [(0, .one (.int .i64 x0)), (6, .one (.sref 13)), (7, .one (.int .i64 x7)), (13, .bblk 5 x13 true)]
def sg_entry_Put : Sig τ := ⟨[(false, T_api_Entry)], [T_string, T_bool]⟩
def ad_entry_Put : Adv := ⟨76, [[1], [1, 43], [2, 3], [1, 4], [1, 4, 6], [1, 4, 6, 8], [2, 3]], [], []⟩
noncomputable def es_entry_Put : List (Ent U) := [e_octet_Fits, e_octet_Put]
noncomputable def g_entry_Put : S_api_Entry × Unit → Option (((List UInt8) × Bool × Unit) × Unit) := runFn (U := U) Tryz.prog es_entry_Put ad_entry_Put 0 Tryz.f191 sg_entry_Put
noncomputable def e_entry_Put : Ent U := ⟨191, sg_entry_Put, g_entry_Put⟩
def sg_rip_line : Sig τ := ⟨[(false, T_api_Msg)], [T_string]⟩
def ad_rip_line : Adv := ⟨39, [[1], [1, 3], [1, 3, 25], [3], [4], [2]], [], []⟩
noncomputable def es_rip_line : List (Ent U) := [e_octet_Zeros, e_mask_Of, e_entry_Put]
noncomputable def g_rip_line : S_api_Msg × Unit → Option (((List UInt8) × Unit) × Unit) := runFn (U := U) Tryz.prog es_rip_line ad_rip_line 0 Tryz.f132 sg_rip_line
noncomputable def e_rip_line : Ent U := ⟨132, sg_rip_line, g_rip_line⟩
def sg_rip_Encode : Sig τ := ⟨[(false, T_list_api_Msg)], [T_string, T_int, T_api_Errno]⟩
def ad_rip_Encode : Adv := ⟨84, [[0], [0, 13, 14, 15], [0, 13, 14, 15, 16], [0, 5, 6, 13, 14, 15], [0, 5, 13, 14, 15, 22], [2, 3, 4], [0, 13, 14, 15], [0, 27], [2, 3, 4], [0, 7], [0, 7, 8], [0, 7, 8, 9, 10], [0, 7, 8, 9, 47], [0, 7, 8], [0, 7, 8], [0, 7, 8, 53, 54, 55], [0, 7, 8, 53, 54, 55, 56], [0, 7, 8, 11, 12, 53, 54, 55], [0, 7, 8, 11, 12, 53, 54, 55, 60], [2, 3, 4], [0, 7, 8, 11, 12, 53, 54, 55, 65], [2, 3, 4], [0, 7, 8, 53, 54, 55], [0, 7, 8, 53, 54, 55], [2, 3, 4]], [48, 77], []⟩
noncomputable def es_rip_Encode : List (Ent U) := [e_rip_Right, e_auth_Put, e_rip_together, e_rip_line]
noncomputable def h_rip_Encode (n : Nat) : (List S_api_Msg) × Unit → Option (((List UInt8) × Int × Int × Unit) × Unit) := runFn (U := U) Tryz.prog es_rip_Encode ad_rip_Encode n Tryz.f77 sg_rip_Encode
noncomputable def g_rip_Encode : (List S_api_Msg) × Unit → Option (((List UInt8) × Int × Int × Unit) × Unit) := h_rip_Encode fuel
noncomputable def e_rip_Encode : Ent U := ⟨77, sg_rip_Encode, g_rip_Encode⟩
noncomputable def fn_rip_Encode := lp (tab es_rip_Encode) ad_rip_Encode Tryz.f77 0 sg_rip_Encode
noncomputable def L_rip_Encode_0 (n m : Nat) (a0 : List S_api_Msg) (x15 : Int) : Option (((List UInt8) × Int × Int × Unit) × Unit) :=
  fn_rip_Encode n [.r, .l, .r, .l, .at m] [(0, .one (.sl 77 a0 .ro)), (13, .one (.sl 77 a0 .ro)), (14, .one (.int .i64 (a0.length : Int))), (15, .one (.int .i64 x15))]
noncomputable def L_rip_Encode_1 (n m : Nat) (a0 : List S_api_Msg) (x7 : Int) (x8 : List UInt8) (x55 : Int) : Option (((List UInt8) × Int × Int × Unit) × Unit) :=
  fn_rip_Encode n [.r, .r, .r, .r, .r, .r, .l, .r, .l, .at m] [(0, .one (.sl 77 a0 .ro)), (7, .one (.int .i64 x7)), (8, .one (.bs 5 x8 .app)), (53, .one (.sl 77 a0 .ro)), (54, .one (.int .i64 (a0.length : Int))), (55, .one (.int .i64 x55))]
def sg_rte_Put : Sig τ := ⟨[(false, T_api_Entry)], [T_string, T_bool]⟩
def ad_rte_Put : Adv := ⟨52, [[1], [1, 33], [2, 3], [2, 3]], [], []⟩
noncomputable def es_rte_Put : List (Ent U) := [e_octet_Fits]
noncomputable def g_rte_Put : S_api_Entry × Unit → Option (((List UInt8) × Bool × Unit) × Unit) := runFn (U := U) Tryz.prog es_rte_Put ad_rte_Put 0 Tryz.f248 sg_rte_Put
noncomputable def e_rte_Put : Ent U := ⟨248, sg_rte_Put, g_rte_Put⟩
def sg_ripng_writer_put : Sig τ := ⟨[(true, T_ripng_writer), (false, T_api_Entry)], []⟩
def ad_ripng_writer_put : Adv := ⟨20, [[0, 3], [0, 4], []], [15], []⟩
noncomputable def es_ripng_writer_put : List (Ent U) := [e_rte_Put]
noncomputable def g_ripng_writer_put : S_ripng_writer × S_api_Entry × Unit → Option ((Unit) × (S_ripng_writer × Unit)) := runFn (U := U) Tryz.prog es_ripng_writer_put ad_ripng_writer_put 0 Tryz.f194 sg_ripng_writer_put
noncomputable def e_ripng_writer_put : Ent U := ⟨194, sg_ripng_writer_put, g_ripng_writer_put⟩
def sg_ripng_writer_route : Sig τ := ⟨[(true, T_ripng_writer), (false, T_api_Msg)], []⟩
def ad_ripng_writer_route : Adv := ⟨32, [[0, 3], [0, 3, 10], [0, 3], [0, 3], []], [], []⟩
noncomputable def es_ripng_writer_route : List (Ent U) := [e_ripng_writer_put]
noncomputable def g_ripng_writer_route : S_ripng_writer × S_api_Msg × Unit → Option ((Unit) × (S_ripng_writer × Unit)) := runFn (U := U) Tryz.prog es_ripng_writer_route ad_ripng_writer_route 0 Tryz.f138 sg_ripng_writer_route
noncomputable def e_ripng_writer_route : Ent U := ⟨138, sg_ripng_writer_route, g_ripng_writer_route⟩
def sg_ripng_Encode : Sig τ := ⟨[(false, T_list_api_Msg)], [T_string, T_int, T_api_Errno]⟩
def ad_ripng_Encode : Adv := ⟨65, [[0], [0, 10, 11, 12], [0, 10, 11, 12, 13], [0, 5, 6, 10, 11, 12], [0, 5, 10, 11, 12, 19], [2, 3, 4], [0, 10, 11, 12], [0, 24], [2, 3, 4], [0, 7], [0, 7, 34, 35, 36], [0, 7, 34, 35, 36, 37], [0, 7, 8, 9, 34, 35, 36], [0, 7, 8, 9, 34, 35, 36, 47], [2, 3, 4], [0, 7, 8, 34, 35, 36], [0, 7, 8, 34, 35, 36, 57], [2, 3, 4], [0, 7, 34, 35, 36], [2, 3, 4]], [], []⟩
noncomputable def es_ripng_Encode : List (Ent U) := [e_ripng_Right, e_octet_Zeros, e_ripng_writer_route]
noncomputable def h_ripng_Encode (n : Nat) : (List S_api_Msg) × Unit → Option (((List UInt8) × Int × Int × Unit) × Unit) := runFn (U := U) Tryz.prog es_ripng_Encode ad_ripng_Encode n Tryz.f80 sg_ripng_Encode
noncomputable def g_ripng_Encode : (List S_api_Msg) × Unit → Option (((List UInt8) × Int × Int × Unit) × Unit) := h_ripng_Encode fuel
noncomputable def e_ripng_Encode : Ent U := ⟨80, sg_ripng_Encode, g_ripng_Encode⟩
noncomputable def fn_ripng_Encode := lp (tab es_ripng_Encode) ad_ripng_Encode Tryz.f80 0 sg_ripng_Encode
noncomputable def L_ripng_Encode_0 (n m : Nat) (a0 : List S_api_Msg) (x12 : Int) : Option (((List UInt8) × Int × Int × Unit) × Unit) :=
  fn_ripng_Encode n [.r, .l, .r, .l, .at m] [(0, .one (.sl 77 a0 .ro)), (10, .one (.sl 77 a0 .ro)), (11, .one (.int .i64 (a0.length : Int))), (12, .one (.int .i64 x12))]
noncomputable def L_ripng_Encode_1 (n m : Nat) (a0 : List S_api_Msg) (x33_0 : List UInt8) (x33_1 : List UInt8) (x36 : Int) : Option (((List UInt8) × Int × Int × Unit) × Unit) :=
  fn_ripng_Encode n [.r, .r, .r, .r, .l, .r, .l, .at m] [(0, .one (.sl 77 a0 .ro)), (7, .one (.ref 33 0)), (33, .box [.bs 5 x33_0 .app, .str x33_1]), (34, .one (.sl 77 a0 .ro)), (35, .one (.int .i64 (a0.length : Int))), (36, .one (.int .i64 x36))]
def sg_ext_Put : Sig τ := ⟨[(false, T_list_api_Sub)], [T_string, T_bool]⟩
def ad_ext_Put : Adv := ⟨36, [[0], [0, 9], [2, 3], [0, 4], [4, 13, 14, 15], [4, 13, 14, 15, 16], [4, 6, 13, 14, 15], [4, 6, 13, 14, 15], [4, 13, 14, 15], [4, 13, 14, 15], [2, 3]], [19, 29], []⟩
noncomputable def es_ext_Put : List (Ent U) := [e_ext_Right, e_msg_Bytes]
noncomputable def h_ext_Put (n : Nat) : (List S_api_Sub) × Unit → Option (((List UInt8) × Bool × Unit) × Unit) := runFn (U := U) Tryz.prog es_ext_Put ad_ext_Put n Tryz.f199 sg_ext_Put
noncomputable def g_ext_Put : (List S_api_Sub) × Unit → Option (((List UInt8) × Bool × Unit) × Unit) := h_ext_Put fuel
noncomputable def e_ext_Put : Ent U := ⟨199, sg_ext_Put, g_ext_Put⟩
noncomputable def fn_ext_Put := lp (tab es_ext_Put) ad_ext_Put Tryz.f199 0 sg_ext_Put
noncomputable def L_ext_Put_0 (n m : Nat) (a0 : List S_api_Sub) (x4 : List UInt8) (x15 : Int) : Option (((List UInt8) × Bool × Unit) × Unit) :=
  fn_ext_Put n [.r, .r, .r, .l, .r, .l, .at m] [(4, .one (.bs 5 x4 .app)), (13, .one (.sl 96 a0 .ro)), (14, .one (.int .i64 (a0.length : Int))), (15, .one (.int .i64 x15))]
def sg_rreq_word : Sig τ := ⟨[(false, T_int)], [T_string]⟩
def ad_rreq_word : Adv := ⟨11, [[0], [3], [2]], [], []⟩
noncomputable def es_rreq_word : List (Ent U) := [e_octet_Put]
noncomputable def g_rreq_word : Int × Unit → Option (((List UInt8) × Unit) × Unit) := runFn (U := U) Tryz.prog es_rreq_word ad_rreq_word 0 Tryz.f200 sg_rreq_word
noncomputable def e_rreq_word : Ent U := ⟨200, sg_rreq_word, g_rreq_word⟩
def sg_rreq_Put : Sig τ := ⟨[(false, T_api_Msg)], [T_string, T_bool]⟩
def ad_rreq_Put : Adv := ⟨46, [[1], [1, 9], [2, 3], [1, 4], [1, 4, 6], [2, 3]], [], []⟩
noncomputable def es_rreq_Put : List (Ent U) := [e_rreq_Right, e_ext_Put, e_rreq_word]
noncomputable def g_rreq_Put : S_api_Msg × Unit → Option (((List UInt8) × Bool × Unit) × Unit) := runFn (U := U) Tryz.prog es_rreq_Put ad_rreq_Put 0 Tryz.f143 sg_rreq_Put
noncomputable def e_rreq_Put : Ent U := ⟨143, sg_rreq_Put, g_rreq_Put⟩
def sg_rrep_Put : Sig τ := ⟨[(false, T_api_Msg)], [T_string, T_bool]⟩
def ad_rrep_Put : Adv := ⟨60, [[1], [1, 12], [2, 3], [1, 4], [1, 4, 21], [2, 3], [1, 4, 6], [1, 4, 6, 8], [2, 3]], [], []⟩
noncomputable def es_rrep_Put : List (Ent U) := [e_rrep_Right, e_ext_Put, e_octet_Put]
noncomputable def g_rrep_Put : S_api_Msg × Unit → Option (((List UInt8) × Bool × Unit) × Unit) := runFn (U := U) Tryz.prog es_rrep_Put ad_rrep_Put 0 Tryz.f144 sg_rrep_Put
noncomputable def e_rrep_Put : Ent U := ⟨144, sg_rrep_Put, g_rrep_Put⟩
def sg_rerr_Put : Sig τ := ⟨[(false, T_api_Msg)], [T_string, T_bool]⟩
def ad_rerr_Put : Adv := ⟨54, [[1], [1, 13], [2, 3], [1, 4], [1, 4, 24, 25, 26], [1, 4, 24, 25, 26, 27], [1, 4, 6, 24, 25, 26], [1, 4, 6, 7, 24, 25, 26], [1, 4, 7, 24, 25, 26], [1, 4, 24, 25, 26], [1, 4, 24, 25, 26], [4, 9], [2, 3]], [36, 40], []⟩
noncomputable def es_rerr_Put : List (Ent U) := [e_rerr_Right, e_octet_Put, e_ext_Put]
noncomputable def h_rerr_Put (n : Nat) : S_api_Msg × Unit → Option (((List UInt8) × Bool × Unit) × Unit) := runFn (U := U) Tryz.prog es_rerr_Put ad_rerr_Put n Tryz.f145 sg_rerr_Put
noncomputable def g_rerr_Put : S_api_Msg × Unit → Option (((List UInt8) × Bool × Unit) × Unit) := h_rerr_Put fuel
noncomputable def e_rerr_Put : Ent U := ⟨145, sg_rerr_Put, g_rerr_Put⟩
noncomputable def fn_rerr_Put := lp (tab es_rerr_Put) ad_rerr_Put Tryz.f145 0 sg_rerr_Put
noncomputable def L_rerr_Put_0 (n m : Nat) (a0 : S_api_Msg) (x4 : List UInt8) (x26 : Int) : Option (((List UInt8) × Bool × Unit) × Unit) :=
  fn_rerr_Put n [.r, .r, .r, .l, .r, .l, .at m] [(1, .box [.int .i64 a0.kind, .int .i64 a0.cmd, .int .i64 a0.ver, .str a0.auth, .int .i64 a0.family, .int .i64 a0.ae, .str a0.prefix_, .int .i64 a0.plen, .int .i64 a0.tag, .str a0.next, .int .i64 a0.metric, .str a0.id, .int .i64 a0.seq, .int .i64 a0.seq2, .int .i64 a0.interval, .int .i64 a0.flags, .int .i64 a0.hops, .int .i64 a0.nonce, .int .i64 a0.cost, .str a0.addr, .str a0.orig, .sl 94 a0.list .ro, .int .i64 a0.type_, .str a0.data, .sl 96 a0.subs .ro]), (4, .one (.bs 5 x4 .app)), (24, .one (.sl 94 a0.list .ro)), (25, .one (.int .i64 (a0.list.length : Int))), (26, .one (.int .i64 x26))]
def sg_aodv_Encode : Sig τ := ⟨[(false, T_list_api_Msg)], [T_string, T_int, T_api_Errno]⟩
def ad_aodv_Encode : Adv := ⟨56, [[0], [0, 9, 10], [0, 9, 10, 11], [0, 5, 9, 10], [0, 5, 9, 10, 18], [2, 3, 4], [0, 9, 10], [0, 23], [2, 3, 4], [0, 26], [2, 3, 4], [0, 6, 7], [0, 6, 7, 35], [0, 6, 7], [0, 6, 44], [6], [6, 54], [2, 3, 4], [2, 3, 4]], [], []⟩
noncomputable def es_aodv_Encode : List (Ent U) := [e_aodv_Right, e_rreq_Put, e_rrep_Put, e_rerr_Put]
noncomputable def h_aodv_Encode (n : Nat) : (List S_api_Msg) × Unit → Option (((List UInt8) × Int × Int × Unit) × Unit) := runFn (U := U) Tryz.prog es_aodv_Encode ad_aodv_Encode n Tryz.f83 sg_aodv_Encode
noncomputable def g_aodv_Encode : (List S_api_Msg) × Unit → Option (((List UInt8) × Int × Int × Unit) × Unit) := h_aodv_Encode fuel
noncomputable def e_aodv_Encode : Ent U := ⟨83, sg_aodv_Encode, g_aodv_Encode⟩
noncomputable def fn_aodv_Encode := lp (tab es_aodv_Encode) ad_aodv_Encode Tryz.f83 0 sg_aodv_Encode
noncomputable def L_aodv_Encode_0 (n m : Nat) (a0 : List S_api_Msg) (x10 : Int) : Option (((List UInt8) × Int × Int × Unit) × Unit) :=
  fn_aodv_Encode n [.r, .l, .r, .l, .at m] [(0, .one (.sl 77 a0 .ro)), (9, .one (.int .i64 (a0.length : Int))), (10, .one (.int .i64 x10))]
def sg_frame_Put : Sig τ := ⟨[(false, T_int), (false, T_string)], [T_string, T_bool]⟩
def ad_frame_Put : Adv := ⟨26, [[0, 1], [0, 1, 16], [4, 5], [4, 5]], [], []⟩
noncomputable def es_frame_Put : List (Ent U) := []
noncomputable def g_frame_Put : Int × (List UInt8) × Unit → Option (((List UInt8) × Bool × Unit) × Unit) := runFn (U := U) Tryz.prog es_frame_Put ad_frame_Put 0 Tryz.f258 sg_frame_Put
noncomputable def e_frame_Put : Ent U := ⟨258, sg_frame_Put, g_frame_Put⟩
def sg_sub_Put : Sig τ := ⟨[(false, T_list_api_Sub)], [T_string, T_bool]⟩
def ad_sub_Put : Adv := ⟨32, [[0], [0, 11], [2, 3], [0, 4], [4, 12, 13, 14], [4, 12, 13, 14, 15], [4, 6, 12, 13, 14], [4, 7, 12, 13, 14], [4, 12, 13, 14], [4, 12, 13, 14], [2, 3]], [26], []⟩
noncomputable def es_sub_Put : List (Ent U) := [e_sub_Right, e_frame_Put]
noncomputable def h_sub_Put (n : Nat) : (List S_api_Sub) × Unit → Option (((List UInt8) × Bool × Unit) × Unit) := runFn (U := U) Tryz.prog es_sub_Put ad_sub_Put n Tryz.f262 sg_sub_Put
noncomputable def g_sub_Put : (List S_api_Sub) × Unit → Option (((List UInt8) × Bool × Unit) × Unit) := h_sub_Put fuel
noncomputable def e_sub_Put : Ent U := ⟨262, sg_sub_Put, g_sub_Put⟩
noncomputable def fn_sub_Put := lp (tab es_sub_Put) ad_sub_Put Tryz.f262 0 sg_sub_Put
noncomputable def L_sub_Put_0 (n m : Nat) (a0 : List S_api_Sub) (x4 : List UInt8) (x14 : Int) : Option (((List UInt8) × Bool × Unit) × Unit) :=
  fn_sub_Put n [.r, .r, .r, .l, .r, .l, .at m] [(4, .one (.bs 5 x4 .app)), (12, .one (.sl 96 a0 .ro)), (13, .one (.int .i64 (a0.length : Int))), (14, .one (.int .i64 x14))]
def sg_prefix_Least : Sig τ := ⟨[(false, T_int)], [T_int]⟩
def ad_prefix_Least : Adv := ⟨7, [[0], [2]], [], []⟩
noncomputable def es_prefix_Least : List (Ent U) := []
noncomputable def g_prefix_Least : Int × Unit → Option ((Int × Unit) × Unit) := runFn (U := U) Tryz.prog es_prefix_Least ad_prefix_Least 0 Tryz.f300 sg_prefix_Least
noncomputable def e_prefix_Least : Ent U := ⟨300, sg_prefix_Least, g_prefix_Least⟩
def sg_prefix_Cut : Sig τ := ⟨[(false, T_string), (false, T_int)], [T_string]⟩
def ad_prefix_Cut : Adv := ⟨16, [[0, 1], [1, 5], [4]], [], []⟩
noncomputable def es_prefix_Cut : List (Ent U) := [e_prefix_Least, e_bits_Keep]
noncomputable def g_prefix_Cut : (List UInt8) × Int × Unit → Option (((List UInt8) × Unit) × Unit) := runFn (U := U) Tryz.prog es_prefix_Cut ad_prefix_Cut 0 Tryz.f290 sg_prefix_Cut
noncomputable def e_prefix_Cut : Ent U := ⟨290, sg_prefix_Cut, g_prefix_Cut⟩
def sg_route_Put : Sig τ := ⟨[(false, T_api_Msg)], [T_string, T_bool]⟩
def ad_route_Put : Adv := ⟨65, [[1], [1, 10], [2, 3], [1, 4], [1, 4, 6], [1, 4, 6, 7], [1, 4, 6, 7, 26], [1, 4, 6, 7], [1, 4, 6, 7], [1, 4, 6, 7], [4, 6, 7], [2, 3]], [27, 40, 44], []⟩
noncomputable def es_route_Put : List (Ent U) := [e_route_Right, e_sub_Put, e_prefix_Cut, e_route_shapes, e_frame_Put]
noncomputable def g_route_Put : S_api_Msg × Unit → Option (((List UInt8) × Bool × Unit) × Unit) := runFn (U := U) Tryz.prog es_route_Put ad_route_Put 0 Tryz.f257 sg_route_Put
noncomputable def e_route_Put : Ent U := ⟨257, sg_route_Put, g_route_Put⟩
def sg_field_writer_two : Sig τ := ⟨[(true, T_field_writer), (false, T_list_int)], []⟩
def ad_field_writer_two : Adv := ⟨27, [[0, 6, 7, 8], [0, 6, 7, 8, 9], [0, 5, 6, 7, 8], [0, 6, 7, 8], [0, 6, 7, 8]], [16], []⟩
noncomputable def es_field_writer_two : List (Ent U) := []
noncomputable def h_field_writer_two (n : Nat) : S_field_writer × (List Int) × Unit → Option ((Unit) × (S_field_writer × Unit)) := runFn (U := U) Tryz.prog es_field_writer_two ad_field_writer_two n Tryz.f291 sg_field_writer_two
noncomputable def g_field_writer_two : S_field_writer × (List Int) × Unit → Option ((Unit) × (S_field_writer × Unit)) := h_field_writer_two fuel
noncomputable def e_field_writer_two : Ent U := ⟨291, sg_field_writer_two, g_field_writer_two⟩
noncomputable def fn_field_writer_two := lp (tab es_field_writer_two) ad_field_writer_two Tryz.f291 1 sg_field_writer_two
noncomputable def L_field_writer_two_0 (n m : Nat) (a1 : List Int) (x8 : Int) (x1000000 : List UInt8) : Option ((Unit) × (S_field_writer × Unit)) :=
  fn_field_writer_two n [.r, .l, .at m] [(0, .one (.ref 1000000 0)), (6, .one (.sl 3 a1 .ro)), (7, .one (.int .i64 (a1.length : Int))), (8, .one (.int .i64 x8)), (1000000, .box [.bs 5 x1000000 .app])]
def sg_addr_Short : Sig τ := ⟨[(false, T_string)], [T_string, T_bool]⟩
def ad_addr_Short : Adv := ⟨9, [[0], [0, 6], [2, 3], [2, 3]], [], []⟩
noncomputable def es_addr_Short : List (Ent U) := [e_addr_Link]
noncomputable def g_addr_Short : (List UInt8) × Unit → Option (((List UInt8) × Bool × Unit) × Unit) := runFn (U := U) Tryz.prog es_addr_Short ad_addr_Short 0 Tryz.f261 sg_addr_Short
noncomputable def e_addr_Short : Ent U := ⟨261, sg_addr_Short, g_addr_Short⟩
def sg_field_Put : Sig τ := ⟨[(false, T_api_Msg)], [T_string, T_bool]⟩
def ad_field_Put : Adv := ⟨107, [[1], [1, 11], [2, 3], [1, 4], [1, 4, 15], [1, 4, 15, 16], [1, 4], [1, 4, 15, 25], [1, 4], [1, 4, 15, 32], [1, 4], [1, 4, 44], [1, 4], [1, 4, 5, 6], [1, 4, 5, 67], [1, 4], [1, 4], [1, 4, 7], [2, 3]], [72, 81], []⟩
noncomputable def es_field_Put : List (Ent U) := [e_field_Right, e_field_writer_two, e_sub_Put, e_frame_Put, e_addr_Short]
noncomputable def g_field_Put : S_api_Msg × Unit → Option (((List UInt8) × Bool × Unit) × Unit) := runFn (U := U) Tryz.prog es_field_Put ad_field_Put 0 Tryz.f259 sg_field_Put
noncomputable def e_field_Put : Ent U := ⟨259, sg_field_Put, g_field_Put⟩
def sg_lean_other : Sig τ := ⟨[(false, T_api_Msg)], [T_string]⟩
def ad_lean_other : Adv := ⟨30, [[1], [1], [1, 5], [3], [1, 5, 11], [1, 5, 11], [3], [1, 19], [3], [2]], [], []⟩
noncomputable def es_lean_other : List (Ent U) := [e_route_Put, e_frame_Put, e_field_Put]
noncomputable def g_lean_other : S_api_Msg × Unit → Option (((List UInt8) × Unit) × Unit) := runFn (U := U) Tryz.prog es_lean_other ad_lean_other 0 Tryz.f212 sg_lean_other
noncomputable def e_lean_other : Ent U := ⟨212, sg_lean_other, g_lean_other⟩
def sg_lean_writer_put : Sig τ := ⟨[(true, T_lean_writer), (false, T_int), (false, T_string)], []⟩
def ad_lean_writer_put : Adv := ⟨23, [[0, 6], []], [18], []⟩
noncomputable def es_lean_writer_put : List (Ent U) := [e_frame_Put]
noncomputable def g_lean_writer_put : S_lean_writer × Int × (List UInt8) × Unit → Option ((Unit) × (S_lean_writer × Unit)) := runFn (U := U) Tryz.prog es_lean_writer_put ad_lean_writer_put 0 Tryz.f260 sg_lean_writer_put
noncomputable def e_lean_writer_put : Ent U := ⟨260, sg_lean_writer_put, g_lean_writer_put⟩
def sg_lean_writer_id : Sig τ := ⟨[(true, T_lean_writer), (false, T_string)], []⟩
def ad_lean_writer_id : Adv := ⟨13, [[0, 1], []], [], []⟩
noncomputable def es_lean_writer_id : List (Ent U) := [e_lean_writer_put]
noncomputable def g_lean_writer_id : S_lean_writer × (List UInt8) × Unit → Option ((Unit) × (S_lean_writer × Unit)) := runFn (U := U) Tryz.prog es_lean_writer_id ad_lean_writer_id 0 Tryz.f213 sg_lean_writer_id
noncomputable def e_lean_writer_id : Ent U := ⟨213, sg_lean_writer_id, g_lean_writer_id⟩
def sg_lean_writer_hop : Sig τ := ⟨[(true, T_lean_writer), (false, T_int), (false, T_string)], []⟩
def ad_lean_writer_hop : Adv := ⟨37, [[0, 1, 2, 6, 7], [0, 1, 2], [0, 1, 2, 6, 17], [0, 1, 2], [0, 1, 2, 23], [0, 1, 2], []], [], []⟩
noncomputable def es_lean_writer_hop : List (Ent U) := [e_addr_Short, e_lean_writer_put]
noncomputable def g_lean_writer_hop : S_lean_writer × Int × (List UInt8) × Unit → Option ((Unit) × (S_lean_writer × Unit)) := runFn (U := U) Tryz.prog es_lean_writer_hop ad_lean_writer_hop 0 Tryz.f214 sg_lean_writer_hop
noncomputable def e_lean_writer_hop : Ent U := ⟨214, sg_lean_writer_hop, g_lean_writer_hop⟩
def sg_lean_base : Sig τ := ⟨[(false, T_int)], [T_int]⟩
def ad_lean_base : Adv := ⟨5, [[0], [4], [2], [2]], [], []⟩
noncomputable def es_lean_base : List (Ent U) := []
noncomputable def g_lean_base : Int × Unit → Option ((Int × Unit) × Unit) := runFn (U := U) Tryz.prog es_lean_base ad_lean_base 0 Tryz.f265 sg_lean_base
noncomputable def e_lean_base : Ent U := ⟨265, sg_lean_base, g_lean_base⟩
def sg_lean_bytes : Sig τ := ⟨[(false, T_api_Msg)], [T_string]⟩
def ad_lean_bytes : Adv := ⟨12, [[1], [2]], [], []⟩
noncomputable def es_lean_bytes : List (Ent U) := [e_prefix_Cut, e_lean_base]
noncomputable def g_lean_bytes : S_api_Msg × Unit → Option (((List UInt8) × Unit) × Unit) := runFn (U := U) Tryz.prog es_lean_bytes ad_lean_bytes 0 Tryz.f263 sg_lean_bytes
noncomputable def e_lean_bytes : Ent U := ⟨263, sg_lean_bytes, g_lean_bytes⟩
def sg_math_bits_Len8 : Sig τ := ⟨[(false, T_uint8)], [T_int]⟩
def ad_math_bits_Len8 : Adv := ⟨6, [[0], [2]], [], []⟩
noncomputable def es_math_bits_Len8 : List (Ent U) := []
noncomputable def g_math_bits_Len8 : Int × Unit → Option ((Int × Unit) × Unit) := runFn (U := U) Tryz.prog es_math_bits_Len8 ad_math_bits_Len8 0 Tryz.f303 sg_math_bits_Len8
noncomputable def e_math_bits_Len8 : Ent U := ⟨303, sg_math_bits_Len8, g_math_bits_Len8⟩
def sg_math_bits_LeadingZeros8 : Sig τ := ⟨[(false, T_uint8)], [T_int]⟩
def ad_math_bits_LeadingZeros8 : Adv := ⟨6, [[0], [2]], [], []⟩
noncomputable def es_math_bits_LeadingZeros8 : List (Ent U) := [e_math_bits_Len8]
noncomputable def g_math_bits_LeadingZeros8 : Int × Unit → Option ((Int × Unit) × Unit) := runFn (U := U) Tryz.prog es_math_bits_LeadingZeros8 ad_math_bits_LeadingZeros8 0 Tryz.f302 sg_math_bits_LeadingZeros8
noncomputable def e_math_bits_LeadingZeros8 : Ent U := ⟨302, sg_math_bits_LeadingZeros8, g_math_bits_LeadingZeros8⟩
def sg_bits_Alike : Sig τ := ⟨[(false, T_string), (false, T_string)], [T_int]⟩
def ad_bits_Alike : Adv := ⟨36, [[0, 1], [0, 1, 11, 12], [0, 1, 11, 12, 13], [0, 1, 5, 11, 12], [0, 1, 5, 6, 11, 12], [0, 1, 5, 6, 11, 12, 23], [4], [0, 1, 11, 12], [4]], [], []⟩
noncomputable def es_bits_Alike : List (Ent U) := [e_math_bits_LeadingZeros8]
noncomputable def h_bits_Alike (n : Nat) : (List UInt8) × (List UInt8) × Unit → Option ((Int × Unit) × Unit) := runFn (U := U) Tryz.prog es_bits_Alike ad_bits_Alike n Tryz.f292 sg_bits_Alike
noncomputable def g_bits_Alike : (List UInt8) × (List UInt8) × Unit → Option ((Int × Unit) × Unit) := h_bits_Alike fuel
noncomputable def e_bits_Alike : Ent U := ⟨292, sg_bits_Alike, g_bits_Alike⟩
noncomputable def fn_bits_Alike := lp (tab es_bits_Alike) ad_bits_Alike Tryz.f292 0 sg_bits_Alike
noncomputable def L_bits_Alike_0 (n m : Nat) (a0 : List UInt8) (a1 : List UInt8) (x11 : Int) (x12 : Int) : Option ((Int × Unit) × Unit) :=
  fn_bits_Alike n [.r, .l, .r, .l, .at m] [(0, .one (.str a0)), (1, .one (.str a1)), (11, .one (.int .i64 x11)), (12, .one (.int .i64 x12))]
def sg_prefix_Lead : Sig τ := ⟨[(false, T_string), (false, T_string)], [T_int]⟩
def ad_prefix_Lead : Adv := ⟨9, [[0, 1], [4]], [], []⟩
noncomputable def es_prefix_Lead : List (Ent U) := [e_bits_Alike]
noncomputable def g_prefix_Lead : (List UInt8) × (List UInt8) × Unit → Option ((Int × Unit) × Unit) := runFn (U := U) Tryz.prog es_prefix_Lead ad_prefix_Lead 0 Tryz.f264 sg_prefix_Lead
noncomputable def e_prefix_Lead : Ent U := ⟨264, sg_prefix_Lead, g_prefix_Lead⟩
def sg_lean_writer_omitted : Sig τ := ⟨[(true, T_lean_writer), (false, T_api_Msg)], [T_int]⟩
def ad_lean_writer_omitted : Adv := ⟨24, [[0, 3], [3, 5], [3, 5, 15], [4], [4]], [], []⟩
noncomputable def es_lean_writer_omitted : List (Ent U) := [e_lean_base, e_lean_bytes, e_prefix_Lead]
noncomputable def g_lean_writer_omitted : S_lean_writer × S_api_Msg × Unit → Option ((Int × Unit) × (S_lean_writer × Unit)) := runFn (U := U) Tryz.prog es_lean_writer_omitted ad_lean_writer_omitted 0 Tryz.f216 sg_lean_writer_omitted
noncomputable def e_lean_writer_omitted : Ent U := ⟨216, sg_lean_writer_omitted, g_lean_writer_omitted⟩
def sg_lean_writer_update : Sig τ := ⟨[(true, T_lean_writer), (false, T_api_Msg), (false, T_int)], []⟩
def ad_lean_writer_update : Adv := ⟨72, [[0, 2, 4], [0, 2, 4, 6], [0, 2, 4, 6, 22], [0, 2, 4, 6], [0, 2, 4, 6], [0, 2, 4, 6, 40, 41, 42], [0, 2, 4, 6, 40, 41, 42, 43], [0, 2, 4, 6, 8, 40, 41, 42], [0, 2, 4, 6, 40, 41, 42], [0, 2, 4, 6, 40, 41, 42], [0, 2, 4, 6, 9], []], [46], [19]⟩
noncomputable def es_lean_writer_update : List (Ent U) := [e_sub_Put, e_lean_bytes, e_lean_writer_put]
noncomputable def h_lean_writer_update (n : Nat) : S_lean_writer × S_api_Msg × Int × Unit → Option ((Unit) × (S_lean_writer × Unit)) := runFn (U := U) Tryz.prog es_lean_writer_update ad_lean_writer_update n Tryz.f215 sg_lean_writer_update
noncomputable def g_lean_writer_update : S_lean_writer × S_api_Msg × Int × Unit → Option ((Unit) × (S_lean_writer × Unit)) := h_lean_writer_update fuel
noncomputable def e_lean_writer_update : Ent U := ⟨215, sg_lean_writer_update, g_lean_writer_update⟩
noncomputable def fn_lean_writer_update := lp (tab es_lean_writer_update) ad_lean_writer_update Tryz.f215 1 sg_lean_writer_update
noncomputable def L_lean_writer_update_0 (n m : Nat) (a2 : Int) (a1 : S_api_Msg) (a0 : S_lean_writer) (x19 : List UInt8) (x40 : List Int) (x41 : Int) (x42 : Int) (x1000000_1 : List UInt8) (x1000000_2 : List UInt8) (x1000000_3 : List UInt8) (x1000000_4 : List UInt8) : Option ((Unit) × (S_lean_writer × Unit)) :=
  fn_lean_writer_update n [.r, .r, .r, .l, .r, .l, .at m] [(0, .one (.ref 1000000 0)), (2, .one (.int .i64 a2)), (4, .box [.int .i64 a1.kind, .int .i64 a1.cmd, .int .i64 a1.ver, .str a1.auth, .int .i64 a1.family, .int .i64 a1.ae, .str a1.prefix_, .int .i64 a1.plen, .int .i64 a1.tag, .str a1.next, .int .i64 a1.metric, .str a1.id, .int .i64 a1.seq, .int .i64 a1.seq2, .int .i64 a1.interval, .int .i64 a1.flags, .int .i64 a1.hops, .int .i64 a1.nonce, .int .i64 a1.cost, .str a1.addr, .str a1.orig, .sl 94 a1.list .ro, .int .i64 a1.type_, .str a1.data, .sl 96 a1.subs .ro]), (6, .one (.sref 19)), (19, .bblk 5 x19 true), (40, .one (.sl 3 x40 .app)), (41, .one (.int .i64 x41)), (42, .one (.int .i64 x42)), (1000000, .box [.bs 5 a0.b .app, .str x1000000_1, .str x1000000_2, .str x1000000_3, .str x1000000_4, .str a0.c_Next_c0, .str a0.c_Next_c1, .str a0.c_Id])]
noncomputable def L_lean_writer_update_1 (n m : Nat) (a2 : Int) (a1 : S_api_Msg) (x40 : List Int) (x41 : Int) (a0 : S_lean_writer) (x1000000_1 : List UInt8) (x1000000_2 : List UInt8) (x1000000_3 : List UInt8) (x1000000_4 : List UInt8) (x6 : List UInt8) (x42 : Int) : Option ((Unit) × (S_lean_writer × Unit)) :=
  fn_lean_writer_update n [.r, .r, .r, .l, .r, .l, .at m] [(0, .one (.ref 1000000 0)), (2, .one (.int .i64 a2)), (4, .box [.int .i64 a1.kind, .int .i64 a1.cmd, .int .i64 a1.ver, .str a1.auth, .int .i64 a1.family, .int .i64 a1.ae, .str a1.prefix_, .int .i64 a1.plen, .int .i64 a1.tag, .str a1.next, .int .i64 a1.metric, .str a1.id, .int .i64 a1.seq, .int .i64 a1.seq2, .int .i64 a1.interval, .int .i64 a1.flags, .int .i64 a1.hops, .int .i64 a1.nonce, .int .i64 a1.cost, .str a1.addr, .str a1.orig, .sl 94 a1.list .ro, .int .i64 a1.type_, .str a1.data, .sl 96 a1.subs .ro]), (6, .one (.bs 5 x6 .app)), (40, .one (.sl 3 x40 .app)), (41, .one (.int .i64 x41)), (42, .one (.int .i64 x42)), (1000000, .box [.bs 5 a0.b .app, .str x1000000_1, .str x1000000_2, .str x1000000_3, .str x1000000_4, .str a0.c_Next_c0, .str a0.c_Next_c1, .str a0.c_Id])]
def sg_lean_Put : Sig τ := ⟨[(false, T_api_Ctx), (false, T_api_Msg)], [T_string, T_api_Ctx, T_api_Errno]⟩
def ad_lean_Put : Adv := ⟨77, [[2, 3, 5], [2, 3, 5, 9], [4, 5, 6], [2, 3, 5, 14], [4, 5, 6], [2, 3, 5, 7], [2, 3, 5, 7, 26], [2, 3, 5, 7, 8], [2, 3, 5, 7, 8, 39], [4, 5, 6], [2, 3, 5, 7, 8, 45], [2, 3, 5, 7, 8], [3, 5, 7, 8, 56], [3, 5, 7], [5, 7], [4, 5, 6]], [], []⟩
noncomputable def es_lean_Put : List (Ent U) := [e_lean_Right, e_lean_other, e_ctx_Family, e_lean_writer_id, e_lean_writer_hop, e_lean_writer_omitted, e_lean_writer_update]
noncomputable def g_lean_Put : S_api_Ctx × S_api_Msg × Unit → Option (((List UInt8) × S_api_Ctx × Int × Unit) × Unit) := runFn (U := U) Tryz.prog es_lean_Put ad_lean_Put 0 Tryz.f153 sg_lean_Put
noncomputable def e_lean_Put : Ent U := ⟨153, sg_lean_Put, g_lean_Put⟩
def sg_frame_Wrap : Sig τ := ⟨[(false, T_string)], [T_string, T_bool]⟩
def ad_frame_Wrap : Adv := ⟨23, [[0], [0, 4, 5], [0, 4, 18], [2, 3], [2, 3]], [], []⟩
noncomputable def es_frame_Wrap : List (Ent U) := [e_octet_Put]
noncomputable def g_frame_Wrap : (List UInt8) × Unit → Option (((List UInt8) × Bool × Unit) × Unit) := runFn (U := U) Tryz.prog es_frame_Wrap ad_frame_Wrap 0 Tryz.f154 sg_frame_Wrap
noncomputable def e_frame_Wrap : Ent U := ⟨154, sg_frame_Wrap, g_frame_Wrap⟩
def sg_outlet_Encode : Sig τ := ⟨[(false, T_list_api_Msg)], [T_string, T_int, T_api_Errno]⟩
def ad_outlet_Encode : Adv := ⟨62, [[0], [0, 16, 17, 18], [0, 16, 17, 18, 19], [0, 5, 6, 16, 17, 18], [0, 5, 16, 17, 18, 25], [2, 3, 4], [0, 16, 17, 18], [0, 7], [0, 7, 8], [7, 8, 28, 29, 30], [7, 8, 28, 29, 30, 31], [7, 8, 9, 10, 28, 29, 30], [7, 8, 9, 11, 12, 13, 28, 29, 30], [7, 8, 9, 11, 12, 13, 28, 29, 30, 43], [2, 3, 4], [7, 8, 9, 28, 29, 30], [7, 8, 9, 28, 29, 30, 52], [2, 3, 4], [7, 8, 28, 29, 30], [14], [2, 3, 4]], [46], []⟩
noncomputable def es_outlet_Encode : List (Ent U) := [e_lean_Right, e_lean_Put, e_frame_Wrap]
noncomputable def h_outlet_Encode (n : Nat) : (List S_api_Msg) × Unit → Option (((List UInt8) × Int × Int × Unit) × Unit) := runFn (U := U) Tryz.prog es_outlet_Encode ad_outlet_Encode n Tryz.f86 sg_outlet_Encode
noncomputable def g_outlet_Encode : (List S_api_Msg) × Unit → Option (((List UInt8) × Int × Int × Unit) × Unit) := h_outlet_Encode fuel
noncomputable def e_outlet_Encode : Ent U := ⟨86, sg_outlet_Encode, g_outlet_Encode⟩
noncomputable def fn_outlet_Encode := lp (tab es_outlet_Encode) ad_outlet_Encode Tryz.f86 0 sg_outlet_Encode
noncomputable def L_outlet_Encode_0 (n m : Nat) (a0 : List S_api_Msg) (x18 : Int) : Option (((List UInt8) × Int × Int × Unit) × Unit) :=
  fn_outlet_Encode n [.r, .l, .r, .l, .at m] [(0, .one (.sl 77 a0 .ro)), (16, .one (.sl 77 a0 .ro)), (17, .one (.int .i64 (a0.length : Int))), (18, .one (.int .i64 x18))]
noncomputable def L_outlet_Encode_1 (n m : Nat) (a0 : List S_api_Msg) (x7 : List UInt8) (x8_0 : List UInt8) (x8_1 : List UInt8) (x8_2 : List UInt8) (x8_3 : List UInt8) (x8_4 : List UInt8) (x8_5 : List UInt8) (x8_6 : List UInt8) (x30 : Int) : Option (((List UInt8) × Int × Int × Unit) × Unit) :=
  fn_outlet_Encode n [.r, .r, .r, .r, .l, .r, .l, .at m] [(7, .one (.bs 5 x7 .app)), (8, .box [.str x8_0, .str x8_1, .str x8_2, .str x8_3, .str x8_4, .str x8_5, .str x8_6]), (28, .one (.sl 77 a0 .ro)), (29, .one (.int .i64 (a0.length : Int))), (30, .one (.int .i64 x30))]
def sg_suite_Encode : Sig τ := ⟨[(false, T_int), (false, T_list_api_Msg)], [T_string, T_int, T_api_Errno]⟩
def ad_suite_Encode : Adv := ⟨23, [[0, 1], [1, 7, 8], [1, 7, 15], [4, 5, 6], [4, 5, 6]], [], []⟩
noncomputable def es_suite_Encode : List (Ent U) := [e_rip_Encode, e_ripng_Encode, e_aodv_Encode, e_outlet_Encode]
noncomputable def ph0_suite_Encode : Tab U := inl Tryz.prog 44 (tab es_suite_Encode) ad_suite_of 0 Tryz.f44 (tab es_suite_Encode)
noncomputable def g_suite_Encode : Int × (List S_api_Msg) × Unit → Option (((List UInt8) × Int × Int × Unit) × Unit) := runPh (U := U) Tryz.prog ph0_suite_Encode ad_suite_Encode 0 Tryz.f26 sg_suite_Encode
noncomputable def e_suite_Encode : Ent U := ⟨26, sg_suite_Encode, g_suite_Encode⟩
def sg_pack_datagram : Sig τ := ⟨[(false, T_int), (false, T_list_api_Msg), (false, T_int)], [T_string, T_bool]⟩
def ad_pack_datagram : Adv := ⟨27, [[0, 1, 2], [2, 8, 10], [6, 7]], [], []⟩
noncomputable def es_pack_datagram : List (Ent U) := [e_suite_Encode]
noncomputable def g_pack_datagram : Int × (List S_api_Msg) × Int × Unit → Option (((List UInt8) × Bool × Unit) × Unit) := runFn (U := U) Tryz.prog es_pack_datagram ad_pack_datagram 0 Tryz.f47 sg_pack_datagram
noncomputable def e_pack_datagram : Ent U := ⟨47, sg_pack_datagram, g_pack_datagram⟩
def sg_pack_Fits : Sig τ := ⟨[(false, T_int), (false, T_list_api_Msg), (false, T_int)], [T_bool]⟩
def ad_pack_Fits : Adv := ⟨17, [[0, 1, 2], [8], [6]], [], []⟩
noncomputable def es_pack_Fits : List (Ent U) := [e_pack_datagram]
noncomputable def g_pack_Fits : Int × (List S_api_Msg) × Int × Unit → Option ((Bool × Unit) × Unit) := runFn (U := U) Tryz.prog es_pack_Fits ad_pack_Fits 0 Tryz.f88 sg_pack_Fits
noncomputable def e_pack_Fits : Ent U := ⟨88, sg_pack_Fits, g_pack_Fits⟩
def sg_pack_check : Sig τ := ⟨[(false, T_int), (false, T_list_api_Msg), (false, T_int)], [T_int, T_api_Errno]⟩
def ad_pack_check : Adv := ⟨46, [[0, 1, 2], [0, 1, 2, 16], [6, 7], [0, 1, 2, 17, 18, 19], [0, 1, 2, 17, 18, 19, 20], [0, 1, 2, 8, 9, 17, 18, 19], [0, 1, 2, 8, 17, 18, 19, 27], [6, 7], [0, 1, 2, 17, 18, 19], [0, 1, 2, 31, 32], [0, 1, 2, 31, 32, 33], [0, 1, 2, 10, 31, 32], [0, 1, 2, 10, 31, 32, 43], [6, 7], [0, 1, 2, 31, 32], [6, 7]], [], []⟩
noncomputable def es_pack_check : List (Ent U) := [e_suite_Right, e_pack_Fits]
noncomputable def h_pack_check (n : Nat) : Int × (List S_api_Msg) × Int × Unit → Option ((Int × Int × Unit) × Unit) := runFn (U := U) Tryz.prog es_pack_check ad_pack_check n Tryz.f46 sg_pack_check
noncomputable def g_pack_check : Int × (List S_api_Msg) × Int × Unit → Option ((Int × Int × Unit) × Unit) := h_pack_check fuel
noncomputable def e_pack_check : Ent U := ⟨46, sg_pack_check, g_pack_check⟩
noncomputable def fn_pack_check := lp (tab es_pack_check) ad_pack_check Tryz.f46 0 sg_pack_check
noncomputable def L_pack_check_0 (n m : Nat) (a0 : Int) (a1 : List S_api_Msg) (a2 : Int) (x19 : Int) : Option ((Int × Int × Unit) × Unit) :=
  fn_pack_check n [.r, .r, .l, .r, .l, .at m] [(0, .one (.int .i64 a0)), (1, .one (.sl 77 a1 .ro)), (2, .one (.int .i64 a2)), (17, .one (.sl 77 a1 .ro)), (18, .one (.int .i64 (a1.length : Int))), (19, .one (.int .i64 x19))]
noncomputable def L_pack_check_1 (n m : Nat) (a0 : Int) (a1 : List S_api_Msg) (a2 : Int) (x32 : Int) : Option ((Int × Int × Unit) × Unit) :=
  fn_pack_check n [.r, .r, .r, .l, .r, .l, .at m] [(0, .one (.int .i64 a0)), (1, .one (.sl 77 a1 .ro)), (2, .one (.int .i64 a2)), (31, .one (.int .i64 (a1.length : Int))), (32, .one (.int .i64 x32))]
def sg_pack_Pack : Sig τ := ⟨[(false, T_int), (false, T_list_api_Msg), (false, T_int)], [T_list_string, T_int, T_api_Errno]⟩
def ad_pack_Pack : Adv := ⟨57, [[0, 1, 2], [0, 1, 2, 9, 10], [0, 1, 2, 9, 10, 24], [6, 7, 8], [0, 1, 2, 11], [0, 1, 2, 11, 29], [0, 1, 2, 11, 12, 13], [0, 1, 2, 11, 12, 13, 33], [0, 1, 2, 11, 12, 13, 14, 15], [0, 1, 2, 11, 12, 13, 14, 45], [0, 1, 2, 11, 12, 13], [0, 1, 2, 11], [6, 7, 8]], [49], []⟩
noncomputable def es_pack_Pack : List (Ent U) := [e_pack_check, e_pack_datagram]
noncomputable def h_pack_Pack (n : Nat) : Int × (List S_api_Msg) × Int × Unit → Option (((List (List UInt8)) × Int × Int × Unit) × Unit) := runFn (U := U) Tryz.prog es_pack_Pack ad_pack_Pack n Tryz.f29 sg_pack_Pack
noncomputable def g_pack_Pack : Int × (List S_api_Msg) × Int × Unit → Option (((List (List UInt8)) × Int × Int × Unit) × Unit) := h_pack_Pack fuel
noncomputable def e_pack_Pack : Ent U := ⟨29, sg_pack_Pack, g_pack_Pack⟩
noncomputable def fn_pack_Pack := lp (tab es_pack_Pack) ad_pack_Pack Tryz.f29 0 sg_pack_Pack
noncomputable def L_pack_Pack_0 (n m : Nat) (a0 : Int) (a2 : Int) (x1 : List S_api_Msg) (x11 : List (List UInt8)) : Option (((List (List UInt8)) × Int × Int × Unit) × Unit) :=
  fn_pack_Pack n [.r, .r, .r, .l, .l, .at m] [(0, .one (.int .i64 a0)), (1, .one (.sl 77 x1 .ro)), (2, .one (.int .i64 a2)), (11, .one (.sl 9 x11 .app))]
noncomputable def L_pack_Pack_1 (n m0 m : Nat) (a0 : Int) (x1 : List S_api_Msg) (a2 : Int) (x11 : List (List UInt8)) (x12 : List UInt8) (x13 : Int) : Option (((List (List UInt8)) × Int × Int × Unit) × Unit) :=
  fn_pack_Pack n [.r, .r, .r, .l, .l, .inn m0, .r, .l, .r, .l, .l, .at m] [(0, .one (.int .i64 a0)), (1, .one (.sl 77 x1 .ro)), (2, .one (.int .i64 a2)), (11, .one (.sl 9 x11 .app)), (12, .one (.str x12)), (13, .one (.int .i64 x13))]
def sg_sync_atomic_Int64_Add : Sig τ := ⟨[(true, T_atomic_Int64), (false, T_int64)], [T_int64]⟩
noncomputable def g_sync_atomic_Int64_Add : S_atomic_Int64 × Int × Unit → Option ((Int × Unit) × (S_atomic_Int64 × Unit)) := x_sync_atomic_Int64_Add
noncomputable def e_sync_atomic_Int64_Add : Ent U := ⟨48, sg_sync_atomic_Int64_Add, g_sync_atomic_Int64_Add⟩
def sg_desk_Desk_count : Sig τ := ⟨[(true, T_desk_Desk), (false, T_int), (false, T_api_Errno)], []⟩
def ad_desk_Desk_count : Adv := ⟨21, [[0, 1, 2], [0, 1, 11], [], []], [], [999999]⟩
noncomputable def es_desk_Desk_count : List (Ent U) := [e_sync_atomic_Int64_Add]
noncomputable def g_desk_Desk_count : S_desk_Desk × Int × Int × Unit → Option ((Unit) × (S_desk_Desk × Unit)) := runFn (U := U) Tryz.prog es_desk_Desk_count ad_desk_Desk_count 0 Tryz.f30 sg_desk_Desk_count
noncomputable def e_desk_Desk_count : Ent U := ⟨30, sg_desk_Desk_count, g_desk_Desk_count⟩
def sg_desk_Desk_Pack : Sig τ := ⟨[(true, T_desk_Desk), (false, T_int), (false, T_list_api_Msg), (false, T_int)], [T_list_string, T_int, T_api_Errno]⟩
def ad_desk_Desk_Pack : Adv := ⟨47, [[0, 1, 2, 3], [0, 1, 2, 3, 20], [8, 9, 10], [0, 11, 12, 13], [0, 11, 12, 13, 14], [0, 11, 12, 13, 14, 29, 30, 31], [0, 11, 12, 13, 14, 29, 30, 31, 32], [0, 11, 12, 13, 14, 16, 29, 30, 31], [0, 11, 12, 13, 14, 29, 30, 31], [0, 11, 12, 13, 14, 29, 30, 31], [11, 12, 13], [8, 9, 10]], [], [999999]⟩
noncomputable def es_desk_Desk_Pack : List (Ent U) := [e_sync_atomic_Bool_Load, e_pack_Pack, e_desk_Desk_count]
noncomputable def h_desk_Desk_Pack (n : Nat) : S_desk_Desk × Int × (List S_api_Msg) × Int × Unit → Option (((List (List UInt8)) × Int × Int × Unit) × (S_desk_Desk × Unit)) := runFn (U := U) Tryz.prog es_desk_Desk_Pack ad_desk_Desk_Pack n Tryz.f16 sg_desk_Desk_Pack
noncomputable def g_desk_Desk_Pack : S_desk_Desk × Int × (List S_api_Msg) × Int × Unit → Option (((List (List UInt8)) × Int × Int × Unit) × (S_desk_Desk × Unit)) := h_desk_Desk_Pack fuel
noncomputable def e_desk_Desk_Pack : Ent U := ⟨16, sg_desk_Desk_Pack, g_desk_Desk_Pack⟩
noncomputable def fn_desk_Desk_Pack := lp (tab es_desk_Desk_Pack) ad_desk_Desk_Pack Tryz.f16 1 sg_desk_Desk_Pack
noncomputable def L_desk_Desk_Pack_0 (n m : Nat) (r2 : ((List (List UInt8)) × Int × Int × Unit) × Unit) (a0 : S_desk_Desk) (r1 : (Bool × Unit) × (S_atomic_Bool × Unit)) (x14 : Int) (x31 : Int) : Option (((List (List UInt8)) × Int × Int × Unit) × (S_desk_Desk × Unit)) :=
  fn_desk_Desk_Pack n [.r, .r, .r, .r, .l, .r, .l, .at m] [(0, .one (.ref 1000000 0)), (11, .one (.sl 9 r2.1.1 .ro)), (12, .one (.int .i64 r2.1.2.1)), (13, .one (.int .i64 r2.1.2.2.1)), (14, .one (.int .i64 x14)), (29, .one (.sl 9 r2.1.1 .ro)), (30, .one (.int .i64 (r2.1.1.length : Int))), (31, .one (.int .i64 x31)), (1000000, .box [.int .u32 a0.once_done_v, .int .i32 a0.once_m_mu_state, .int .u32 a0.once_m_mu_sema, .any, .int .u32 r1.2.1.v, .int .i64 a0.calls_v, .int .i64 a0.failed_v, .int .i64 a0.bytes_v])]
def sg_rip_head : Sig τ := ⟨[(false, T_string)], [T_int, T_api_Errno]⟩
def ad_rip_head : Adv := ⟨49, [[0], [0, 4], [0, 4, 7], [2, 3], [0, 4, 11], [2, 3], [0, 4, 20], [2, 3], [4, 29], [2, 3], [4, 34], [2, 3], [4, 40], [2, 3], [44], [2, 3], [2, 3]], [], []⟩
noncomputable def es_rip_head : List (Ent U) := [e_octet_Zero]
noncomputable def g_rip_head : (List UInt8) × Unit → Option ((Int × Int × Unit) × Unit) := runFn (U := U) Tryz.prog es_rip_head ad_rip_head 0 Tryz.f126 sg_rip_head
noncomputable def e_rip_head : Ent U := ⟨126, sg_rip_head, g_rip_head⟩
def sg_internal_stringslite_CutPrefix : Sig τ := ⟨[(false, T_string), (false, T_string)], [T_string, T_bool]⟩
def ad_internal_stringslite_CutPrefix : Adv := ⟨15, [[0, 1], [0, 1, 9], [4, 5], [4, 5]], [], []⟩
noncomputable def es_internal_stringslite_CutPrefix : List (Ent U) := [e_internal_stringslite_HasPrefix]
noncomputable def g_internal_stringslite_CutPrefix : (List UInt8) × (List UInt8) × Unit → Option (((List UInt8) × Bool × Unit) × Unit) := runFn (U := U) Tryz.prog es_internal_stringslite_CutPrefix ad_internal_stringslite_CutPrefix 0 Tryz.f243 sg_internal_stringslite_CutPrefix
noncomputable def e_internal_stringslite_CutPrefix : Ent U := ⟨243, sg_internal_stringslite_CutPrefix, g_internal_stringslite_CutPrefix⟩
def sg_strings_CutPrefix : Sig τ := ⟨[(false, T_string), (false, T_string)], [T_string, T_bool]⟩
def ad_strings_CutPrefix : Adv := ⟨11, [[0, 1], [4, 5]], [], []⟩
noncomputable def es_strings_CutPrefix : List (Ent U) := [e_internal_stringslite_CutPrefix]
noncomputable def g_strings_CutPrefix : (List UInt8) × (List UInt8) × Unit → Option (((List UInt8) × Bool × Unit) × Unit) := runFn (U := U) Tryz.prog es_strings_CutPrefix ad_strings_CutPrefix 0 Tryz.f185 sg_strings_CutPrefix
noncomputable def e_strings_CutPrefix : Ent U := ⟨185, sg_strings_CutPrefix, g_strings_CutPrefix⟩
def sg_auth_Get : Sig τ := ⟨[(false, T_string)], [T_string, T_bool]⟩
def ad_auth_Get : Adv := ⟨19, [[0], [4, 5], [4, 17], [2, 3], [2, 3]], [], []⟩
noncomputable def es_auth_Get : List (Ent U) := [e_strings_CutPrefix]
noncomputable def g_auth_Get : (List UInt8) × Unit → Option (((List UInt8) × Bool × Unit) × Unit) := runFn (U := U) Tryz.prog es_auth_Get ad_auth_Get 0 Tryz.f127 sg_auth_Get
noncomputable def e_auth_Get : Ent U := ⟨127, sg_auth_Get, g_auth_Get⟩
def sg_cursor_New : Sig τ := ⟨[(false, T_string)], [T_api_Cur]⟩
def ad_cursor_New : Adv := ⟨7, [[0, 2], [2]], [], []⟩
noncomputable def es_cursor_New : List (Ent U) := []
noncomputable def g_cursor_New : (List UInt8) × Unit → Option ((S_api_Cur × Unit) × Unit) := runFn (U := U) Tryz.prog es_cursor_New ad_cursor_New 0 Tryz.f186 sg_cursor_New
noncomputable def e_cursor_New : Ent U := ⟨186, sg_cursor_New, g_cursor_New⟩
def sg_cursor_step : Sig τ := ⟨[(false, T_api_Cur), (false, T_int)], [T_api_Cur, T_bool]⟩
def ad_cursor_step : Adv := ⟨29, [[1, 2, 4], [1, 2, 4, 20], [2, 4], [4, 5], [2, 4], [4, 5]], [], []⟩
noncomputable def es_cursor_step : List (Ent U) := []
noncomputable def g_cursor_step : S_api_Cur × Int × Unit → Option ((S_api_Cur × Bool × Unit) × Unit) := runFn (U := U) Tryz.prog es_cursor_step ad_cursor_step 0 Tryz.f277 sg_cursor_step
noncomputable def e_cursor_step : Ent U := ⟨277, sg_cursor_step, g_cursor_step⟩
def sg_cursor_Num : Sig τ := ⟨[(false, T_api_Cur), (false, T_int)], [T_int, T_api_Cur]⟩
def ad_cursor_Num : Adv := ⟨49, [[1, 2, 5], [1, 2, 5, 16], [2, 5], [4, 5], [2, 5, 6, 7], [2, 5, 6, 26], [4, 5], [2, 5, 6, 8], [5, 6, 8, 35, 36, 37], [5, 6, 8, 35, 36, 37, 38], [5, 6, 8, 10, 35, 36, 37], [5, 6, 8, 35, 36, 37], [5, 6, 8, 35, 36, 37], [4, 5]], [], []⟩
noncomputable def es_cursor_Num : List (Ent U) := [e_cursor_step]
noncomputable def h_cursor_Num (n : Nat) : S_api_Cur × Int × Unit → Option ((Int × S_api_Cur × Unit) × Unit) := runFn (U := U) Tryz.prog es_cursor_Num ad_cursor_Num n Tryz.f244 sg_cursor_Num
noncomputable def g_cursor_Num : S_api_Cur × Int × Unit → Option ((Int × S_api_Cur × Unit) × Unit) := h_cursor_Num fuel
noncomputable def e_cursor_Num : Ent U := ⟨244, sg_cursor_Num, g_cursor_Num⟩
noncomputable def fn_cursor_Num := lp (tab es_cursor_Num) ad_cursor_Num Tryz.f244 0 sg_cursor_Num
noncomputable def L_cursor_Num_0 (n m : Nat) (r1 : (S_api_Cur × Bool × Unit) × Unit) (x8 : Int) (x35 : List UInt8) (x36 : Int) (x37 : Int) : Option ((Int × S_api_Cur × Unit) × Unit) :=
  fn_cursor_Num n [.r, .r, .r, .r, .r, .l, .r, .l, .at m] [(5, .box [.str ([] : List UInt8), .int .i64 0, .int .i64 0, .bool false]), (6, .box [.str r1.1.1.s, .int .i64 r1.1.1.at_, .int .i64 r1.1.1.end_, .bool r1.1.1.bad]), (8, .one (.int .i64 x8)), (35, .one (.bs 5 x35 .app)), (36, .one (.int .i64 x36)), (37, .one (.int .i64 x37))]
def sg_entry_reader_num : Sig τ := ⟨[(true, T_entry_reader), (false, T_int)], [T_int]⟩
def ad_entry_reader_num : Adv := ⟨21, [[0, 1], [0, 5, 6], [5], [4]], [], []⟩
noncomputable def es_entry_reader_num : List (Ent U) := [e_cursor_Num]
noncomputable def g_entry_reader_num : S_entry_reader × Int × Unit → Option ((Int × Unit) × (S_entry_reader × Unit)) := runFn (U := U) Tryz.prog es_entry_reader_num ad_entry_reader_num 0 Tryz.f187 sg_entry_reader_num
noncomputable def e_entry_reader_num : Ent U := ⟨187, sg_entry_reader_num, g_entry_reader_num⟩
def sg_cursor_Text : Sig τ := ⟨[(false, T_api_Cur), (false, T_int)], [T_string, T_api_Cur]⟩
def ad_cursor_Text : Adv := ⟨25, [[1, 2, 5], [2, 5, 6, 7], [2, 5, 6, 15], [4, 5], [4, 5]], [], []⟩
noncomputable def es_cursor_Text : List (Ent U) := [e_cursor_step]
noncomputable def g_cursor_Text : S_api_Cur × Int × Unit → Option (((List UInt8) × S_api_Cur × Unit) × Unit) := runFn (U := U) Tryz.prog es_cursor_Text ad_cursor_Text 0 Tryz.f245 sg_cursor_Text
noncomputable def e_cursor_Text : Ent U := ⟨245, sg_cursor_Text, g_cursor_Text⟩
def sg_entry_reader_four : Sig τ := ⟨[(true, T_entry_reader)], [T_string]⟩
def ad_entry_reader_four : Adv := ⟨18, [[0], [0, 3, 4], [3], [2]], [], []⟩
noncomputable def es_entry_reader_four : List (Ent U) := [e_cursor_Text]
noncomputable def g_entry_reader_four : S_entry_reader × Unit → Option (((List UInt8) × Unit) × (S_entry_reader × Unit)) := runFn (U := U) Tryz.prog es_entry_reader_four ad_entry_reader_four 0 Tryz.f188 sg_entry_reader_four
noncomputable def e_entry_reader_four : Ent U := ⟨188, sg_entry_reader_four, g_entry_reader_four⟩
def sg_entry_Get : Sig τ := ⟨[(false, T_string)], [T_api_Entry, T_bool]⟩
def ad_entry_Get : Adv := ⟨33, [[0, 2], [0, 2, 8], [2, 3], [2, 4], [2, 4, 5], [2, 4, 5], [2, 4, 5], [2, 4, 5], [2, 4, 5], [2, 4, 5], [2, 5], [2, 3]], [], []⟩
noncomputable def es_entry_Get : List (Ent U) := [e_cursor_New, e_entry_reader_num, e_entry_reader_four]
noncomputable def g_entry_Get : (List UInt8) × Unit → Option ((S_api_Entry × Bool × Unit) × Unit) := runFn (U := U) Tryz.prog es_entry_Get ad_entry_Get 0 Tryz.f128 sg_entry_Get
noncomputable def e_entry_Get : Ent U := ⟨128, sg_entry_Get, g_entry_Get⟩
def sg_math_bits_Len32 : Sig τ := ⟨[(false, T_uint32)], [T_int]⟩
def ad_math_bits_Len32 : Adv := ⟨19, [[0, 2], [0, 2, 4], [0], [0, 2], [0, 2, 8], [0, 2], [0, 2], [2]], [], []⟩
noncomputable def es_math_bits_Len32 : List (Ent U) := []
noncomputable def g_math_bits_Len32 : Int × Unit → Option ((Int × Unit) × Unit) := runFn (U := U) Tryz.prog es_math_bits_Len32 ad_math_bits_Len32 0 Tryz.f278 sg_math_bits_Len32
noncomputable def e_math_bits_Len32 : Ent U := ⟨278, sg_math_bits_Len32, g_math_bits_Len32⟩
def sg_math_bits_LeadingZeros32 : Sig τ := ⟨[(false, T_uint32)], [T_int]⟩
def ad_math_bits_LeadingZeros32 : Adv := ⟨6, [[0], [2]], [], []⟩
noncomputable def es_math_bits_LeadingZeros32 : List (Ent U) := [e_math_bits_Len32]
noncomputable def g_math_bits_LeadingZeros32 : Int × Unit → Option ((Int × Unit) × Unit) := runFn (U := U) Tryz.prog es_math_bits_LeadingZeros32 ad_math_bits_LeadingZeros32 0 Tryz.f246 sg_math_bits_LeadingZeros32
noncomputable def e_math_bits_LeadingZeros32 : Ent U := ⟨246, sg_math_bits_LeadingZeros32, g_math_bits_LeadingZeros32⟩
def sg_mask_Plen : Sig τ := ⟨[(false, T_string)], [T_int, T_bool]⟩
def ad_mask_Plen : Adv := ⟨41, [[0], [0, 10], [2, 3], [0, 4], [0, 5], [0, 5, 6], [5, 39], [2, 3], [2, 3]], [], []⟩
noncomputable def es_mask_Plen : List (Ent U) := [e_math_bits_LeadingZeros32, e_mask_Of]
noncomputable def g_mask_Plen : (List UInt8) × Unit → Option ((Int × Bool × Unit) × Unit) := runFn (U := U) Tryz.prog es_mask_Plen ad_mask_Plen 0 Tryz.f189 sg_mask_Plen
noncomputable def e_mask_Plen : Ent U := ⟨189, sg_mask_Plen, g_mask_Plen⟩
def sg_rip_reader_route : Sig τ := ⟨[(true, T_rip_reader), (false, T_api_Entry)], [T_api_Msg, T_api_Errno]⟩
def ad_rip_reader_route : Adv := ⟨107, [[0, 3, 4], [0, 3, 4, 6], [3, 4, 6, 7, 8], [3, 4, 6, 7, 46], [4, 5], [3, 4, 6], [0, 3, 4, 6, 50], [4, 6, 69], [4, 5], [4, 5], [0, 3, 4, 6, 72], [4, 5], [3, 4, 6, 77], [3, 4, 6], [3, 4, 6, 95], [4, 5], [4, 6, 104], [4, 5], [4, 5]], [], []⟩
noncomputable def es_rip_reader_route : List (Ent U) := [e_octet_Zero, e_rip_Right, e_mask_Plen, e_prefix_Right]
noncomputable def g_rip_reader_route : S_rip_reader × S_api_Entry × Unit → Option ((S_api_Msg × Int × Unit) × (S_rip_reader × Unit)) := runFn (U := U) Tryz.prog es_rip_reader_route ad_rip_reader_route 0 Tryz.f129 sg_rip_reader_route
noncomputable def e_rip_reader_route : Ent U := ⟨129, sg_rip_reader_route, g_rip_reader_route⟩
def sg_rip_Parse : Sig τ := ⟨[(false, T_string)], [T_list_api_Msg, T_int, T_api_Errno]⟩
def ad_rip_Parse : Adv := ⟨94, [[0], [0, 5, 6], [0, 5, 6, 22], [2, 3, 4], [0, 7], [0, 7, 8], [0, 7, 8, 9, 10], [0, 7, 8, 9, 46], [0, 7, 8], [0, 7, 8, 54], [2, 3, 4], [0, 7, 8], [0, 7, 8, 11], [0, 7, 8, 11, 67], [0, 7, 8, 11], [0, 7, 8, 11, 12], [0, 7, 8, 11, 14, 15], [0, 7, 8, 11, 14, 15, 86], [2, 3, 4], [0, 7, 8, 11], [2, 3, 4]], [89], []⟩
noncomputable def es_rip_Parse : List (Ent U) := [e_rip_head, e_auth_Get, e_entry_Get, e_rip_reader_route]
noncomputable def h_rip_Parse (n : Nat) : (List UInt8) × Unit → Option (((List S_api_Msg) × Int × Int × Unit) × Unit) := runFn (U := U) Tryz.prog es_rip_Parse ad_rip_Parse n Tryz.f76 sg_rip_Parse
noncomputable def g_rip_Parse : (List UInt8) × Unit → Option (((List S_api_Msg) × Int × Int × Unit) × Unit) := h_rip_Parse fuel
noncomputable def e_rip_Parse : Ent U := ⟨76, sg_rip_Parse, g_rip_Parse⟩
noncomputable def fn_rip_Parse := lp (tab es_rip_Parse) ad_rip_Parse Tryz.f76 0 sg_rip_Parse
noncomputable def L_rip_Parse_0 (n m : Nat) (a0 : List UInt8) (x8 : Int) (x11 : List S_api_Msg) (x32_0 : Int) (x32_1 : Int) (x32_2 : List UInt8) (x32_3 : Bool) : Option (((List S_api_Msg) × Int × Int × Unit) × Unit) :=
  fn_rip_Parse n [.r, .r, .r, .r, .r, .r, .r, .r, .l, .l, .at m] [(0, .one (.str a0)), (7, .one (.ref 32 0)), (8, .one (.int .i64 x8)), (11, .one (.sl 77 x11 .app)), (32, .box [.int .i64 x32_0, .int .i64 x32_1, .str x32_2, .bool x32_3])]
def sg_ripng_head : Sig τ := ⟨[(false, T_string)], [T_int, T_api_Errno]⟩
def ad_ripng_head : Adv := ⟨37, [[0], [0, 4], [0, 4, 7], [2, 3], [0, 4, 10], [2, 3], [0, 4, 14], [2, 3], [0, 4, 23], [2, 3], [4, 27], [2, 3], [4, 32], [2, 3], [2, 3]], [], []⟩
noncomputable def es_ripng_head : List (Ent U) := [e_octet_Zero]
noncomputable def g_ripng_head : (List UInt8) × Unit → Option ((Int × Int × Unit) × Unit) := runFn (U := U) Tryz.prog es_ripng_head ad_ripng_head 0 Tryz.f135 sg_ripng_head
noncomputable def e_ripng_head : Ent U := ⟨135, sg_ripng_head, g_ripng_head⟩
def sg_rte_Get : Sig τ := ⟨[(false, T_string)], [T_api_Entry, T_bool]⟩
def ad_rte_Get : Adv := ⟨28, [[0, 2], [0, 2, 7], [2, 3], [0, 2, 4], [2, 3]], [], []⟩
noncomputable def es_rte_Get : List (Ent U) := []
noncomputable def g_rte_Get : (List UInt8) × Unit → Option ((S_api_Entry × Bool × Unit) × Unit) := runFn (U := U) Tryz.prog es_rte_Get ad_rte_Get 0 Tryz.f136 sg_rte_Get
noncomputable def e_rte_Get : Ent U := ⟨136, sg_rte_Get, g_rte_Get⟩
def sg_ripng_reader_hop : Sig τ := ⟨[(true, T_ripng_reader), (false, T_api_Entry)], [T_api_Errno]⟩
def ad_ripng_reader_hop : Adv := ⟨23, [[0, 3], [0, 3, 10], [4], [0, 3], [0, 3, 17], [], [4]], [], []⟩
noncomputable def es_ripng_reader_hop : List (Ent U) := [e_octet_Zeros, e_addr_Link]
noncomputable def g_ripng_reader_hop : S_ripng_reader × S_api_Entry × Unit → Option ((Int × Unit) × (S_ripng_reader × Unit)) := runFn (U := U) Tryz.prog es_ripng_reader_hop ad_ripng_reader_hop 0 Tryz.f193 sg_ripng_reader_hop
noncomputable def e_ripng_reader_hop : Ent U := ⟨193, sg_ripng_reader_hop, g_ripng_reader_hop⟩
def sg_ripng_reader_entry : Sig τ := ⟨[(true, T_ripng_reader), (false, T_api_Entry)], [T_api_Errno]⟩
def ad_ripng_reader_entry : Adv := ⟨54, [[0, 3], [0, 3, 5], [4], [0, 3, 12], [4], [0, 3, 19], [4], [], [4]], [32], []⟩
noncomputable def es_ripng_reader_entry : List (Ent U) := [e_ripng_reader_hop, e_prefix_Right]
noncomputable def g_ripng_reader_entry : S_ripng_reader × S_api_Entry × Unit → Option ((Int × Unit) × (S_ripng_reader × Unit)) := runFn (U := U) Tryz.prog es_ripng_reader_entry ad_ripng_reader_entry 0 Tryz.f137 sg_ripng_reader_entry
noncomputable def e_ripng_reader_entry : Ent U := ⟨137, sg_ripng_reader_entry, g_ripng_reader_entry⟩
def sg_ripng_Parse : Sig τ := ⟨[(false, T_string)], [T_list_api_Msg, T_int, T_api_Errno]⟩
def ad_ripng_Parse : Adv := ⟨61, [[0], [0, 5, 6], [0, 5, 6, 18], [2, 3, 4], [0, 7], [0, 7, 8], [0, 7, 8, 30], [0, 7, 8], [0, 7, 8, 9], [0, 7, 8, 11], [0, 7, 8, 11, 46], [2, 3, 4], [0, 7, 54], [2, 3, 4], [2, 3, 4]], [], []⟩
noncomputable def es_ripng_Parse : List (Ent U) := [e_ripng_head, e_octet_Zeros, e_rte_Get, e_ripng_reader_entry]
noncomputable def h_ripng_Parse (n : Nat) : (List UInt8) × Unit → Option (((List S_api_Msg) × Int × Int × Unit) × Unit) := runFn (U := U) Tryz.prog es_ripng_Parse ad_ripng_Parse n Tryz.f79 sg_ripng_Parse
noncomputable def g_ripng_Parse : (List UInt8) × Unit → Option (((List S_api_Msg) × Int × Int × Unit) × Unit) := h_ripng_Parse fuel
noncomputable def e_ripng_Parse : Ent U := ⟨79, sg_ripng_Parse, g_ripng_Parse⟩
noncomputable def fn_ripng_Parse := lp (tab es_ripng_Parse) ad_ripng_Parse Tryz.f79 0 sg_ripng_Parse
noncomputable def L_ripng_Parse_0 (n m : Nat) (a0 : List UInt8) (x8 : Int) (x26_0 : Int) (x26_1 : List UInt8) (x26_2 : List S_api_Msg) : Option (((List S_api_Msg) × Int × Int × Unit) × Unit) :=
  fn_ripng_Parse n [.r, .r, .r, .l, .r, .l, .at m] [(0, .one (.str a0)), (7, .one (.ref 26 0)), (8, .one (.int .i64 x8)), (26, .box [.int .i64 x26_0, .str x26_1, .sl 77 x26_2 .app])]
def sg_cursor_Left : Sig τ := ⟨[(false, T_api_Cur)], [T_int]⟩
def ad_cursor_Left : Adv := ⟨10, [[1], [1, 4], [2], [2]], [], []⟩
noncomputable def es_cursor_Left : List (Ent U) := []
noncomputable def g_cursor_Left : S_api_Cur × Unit → Option ((Int × Unit) × Unit) := runFn (U := U) Tryz.prog es_cursor_Left ad_cursor_Left 0 Tryz.f209 sg_cursor_Left
noncomputable def e_cursor_Left : Ent U := ⟨209, sg_cursor_Left, g_cursor_Left⟩
def sg_ext_Get : Sig τ := ⟨[(false, T_string)], [T_list_api_Sub, T_int, T_api_Errno]⟩
def ad_ext_Get : Adv := ⟨44, [[0], [0, 5], [5, 6], [5, 6, 14], [5, 6, 7], [5, 6, 7, 8], [5, 6, 7, 8], [5, 6, 7, 8], [5, 6, 7, 8, 9], [5, 6, 7, 8], [5, 6, 7, 8, 36], [2, 3, 4], [5, 6], [5, 42], [5, 6], [2, 3, 4]], [38], []⟩
noncomputable def es_ext_Get : List (Ent U) := [e_cursor_New, e_cursor_Left, e_cursor_Num, e_cursor_Text]
noncomputable def h_ext_Get (n : Nat) : (List UInt8) × Unit → Option (((List S_api_Sub) × Int × Int × Unit) × Unit) := runFn (U := U) Tryz.prog es_ext_Get ad_ext_Get n Tryz.f250 sg_ext_Get
noncomputable def g_ext_Get : (List UInt8) × Unit → Option (((List S_api_Sub) × Int × Int × Unit) × Unit) := h_ext_Get fuel
noncomputable def e_ext_Get : Ent U := ⟨250, sg_ext_Get, g_ext_Get⟩
noncomputable def fn_ext_Get := lp (tab es_ext_Get) ad_ext_Get Tryz.f250 0 sg_ext_Get
noncomputable def L_ext_Get_0 (n m : Nat) (x5 : List S_api_Sub) (x6_0 : List UInt8) (x6_1 : Int) (x6_2 : Int) (x6_3 : Bool) : Option (((List S_api_Sub) × Int × Int × Unit) × Unit) :=
  fn_ext_Get n [.r, .r, .l, .r, .l, .at m] [(5, .one (.sl 96 x5 .app)), (6, .box [.str x6_0, .int .i64 x6_1, .int .i64 x6_2, .bool x6_3])]
def sg_rreq_Get : Sig τ := ⟨[(false, T_string)], [T_api_Msg, T_int, T_api_Errno]⟩
def ad_rreq_Get : Adv := ⟨84, [[0, 2], [0, 2, 13], [2, 3, 4], [0, 2, 23], [2, 3, 4], [0, 2, 5, 6, 7], [0, 2, 5, 6, 7, 33], [2, 3, 4], [0, 2, 8], [2, 8, 10], [2, 8, 10], [2, 8, 10], [2, 8, 10], [2, 8, 10], [2, 8], [2, 3, 4]], [], []⟩
noncomputable def es_rreq_Get : List (Ent U) := [e_ext_Get, e_cursor_New, e_cursor_Text, e_cursor_Num]
noncomputable def g_rreq_Get : (List UInt8) × Unit → Option ((S_api_Msg × Int × Int × Unit) × Unit) := runFn (U := U) Tryz.prog es_rreq_Get ad_rreq_Get 0 Tryz.f196 sg_rreq_Get
noncomputable def e_rreq_Get : Ent U := ⟨196, sg_rreq_Get, g_rreq_Get⟩
def sg_rerr_Get : Sig τ := ⟨[(false, T_string)], [T_api_Msg, T_int, T_api_Errno]⟩
def ad_rerr_Get : Adv := ⟨93, [[0, 2], [0, 2, 12], [2, 3, 4], [0, 2, 19], [2, 3, 4], [0, 2, 28], [2, 3, 4], [0, 2, 5], [0, 2, 5, 7], [0, 2, 5, 7, 46, 47], [0, 2, 5, 7, 46, 47, 48], [0, 2, 5, 7, 8, 46, 47], [0, 2, 5, 7, 8, 46, 47], [0, 2, 5, 7, 8, 46, 47], [0, 2, 5, 7, 46, 47], [0, 2, 5, 7, 46, 47], [0, 2, 5, 7, 69], [2, 3, 4], [2, 5, 7, 9, 10, 11], [2, 5, 7, 9, 10, 11, 83], [2, 3, 4], [2, 5], [2, 3, 4]], [62], []⟩
noncomputable def es_rerr_Get : List (Ent U) := [e_cursor_New, e_cursor_Text, e_cursor_Num, e_ext_Get]
noncomputable def h_rerr_Get (n : Nat) : (List UInt8) × Unit → Option ((S_api_Msg × Int × Int × Unit) × Unit) := runFn (U := U) Tryz.prog es_rerr_Get ad_rerr_Get n Tryz.f197 sg_rerr_Get
noncomputable def g_rerr_Get : (List UInt8) × Unit → Option ((S_api_Msg × Int × Int × Unit) × Unit) := h_rerr_Get fuel
noncomputable def e_rerr_Get : Ent U := ⟨197, sg_rerr_Get, g_rerr_Get⟩
noncomputable def fn_rerr_Get := lp (tab es_rerr_Get) ad_rerr_Get Tryz.f197 0 sg_rerr_Get
noncomputable def L_rerr_Get_0 (n m : Nat) (a0 : List UInt8) (x5_15 : Int) (x5_21 : List S_api_Dest) (x7_0 : List UInt8) (x7_1 : Int) (x7_2 : Int) (x7_3 : Bool) (x46 : Int) (x47 : Int) : Option ((S_api_Msg × Int × Int × Unit) × Unit) :=
  fn_rerr_Get n [.r, .r, .r, .r, .l, .r, .l, .at m] [(0, .one (.str a0)), (2, .box [.int .i64 0, .int .i64 0, .int .i64 0, .str ([] : List UInt8), .int .i64 0, .int .i64 0, .str ([] : List UInt8), .int .i64 0, .int .i64 0, .str ([] : List UInt8), .int .i64 0, .str ([] : List UInt8), .int .i64 0, .int .i64 0, .int .i64 0, .int .i64 0, .int .i64 0, .int .i64 0, .int .i64 0, .str ([] : List UInt8), .str ([] : List UInt8), .sl 94 [] .app, .int .i64 0, .str ([] : List UInt8), .sl 96 [] .app]), (5, .box [.int .i64 5, .int .i64 0, .int .i64 0, .str ([] : List UInt8), .int .i64 0, .int .i64 0, .str ([] : List UInt8), .int .i64 0, .int .i64 0, .str ([] : List UInt8), .int .i64 0, .str ([] : List UInt8), .int .i64 0, .int .i64 0, .int .i64 0, .int .i64 x5_15, .int .i64 0, .int .i64 0, .int .i64 0, .str ([] : List UInt8), .str ([] : List UInt8), .sl 94 x5_21 .app, .int .i64 0, .str ([] : List UInt8), .sl 96 [] .app]), (7, .box [.str x7_0, .int .i64 x7_1, .int .i64 x7_2, .bool x7_3]), (46, .one (.int .i64 x46)), (47, .one (.int .i64 x47))]
def sg_rrep_ack : Sig τ := ⟨[(false, T_string)], [T_api_Msg, T_int, T_api_Errno]⟩
def ad_rrep_ack : Adv := ⟨33, [[0, 2], [0, 2, 10], [2, 3, 4], [0, 2, 16], [2, 3, 4], [2, 5, 6, 7], [2, 5, 6, 7, 26], [2, 3, 4], [2, 3, 4]], [], []⟩
noncomputable def es_rrep_ack : List (Ent U) := [e_ext_Get]
noncomputable def g_rrep_ack : (List UInt8) × Unit → Option ((S_api_Msg × Int × Int × Unit) × Unit) := runFn (U := U) Tryz.prog es_rrep_ack ad_rrep_ack 0 Tryz.f251 sg_rrep_ack
noncomputable def e_rrep_ack : Ent U := ⟨251, sg_rrep_ack, g_rrep_ack⟩
def sg_rrep_Get : Sig τ := ⟨[(false, T_string)], [T_api_Msg, T_int, T_api_Errno]⟩
def ad_rrep_Get : Adv := ⟨94, [[0, 2], [0, 2, 17], [2, 3, 4], [0, 2, 25], [2, 3, 4], [0, 2, 36], [2, 3, 4], [0, 2, 5, 6, 7], [0, 2, 5, 6, 7, 46], [2, 3, 4], [0, 2, 8], [2, 8, 10], [2, 8, 10], [2, 8, 10], [2, 8, 10], [2, 8], [2, 3, 4]], [], []⟩
noncomputable def es_rrep_Get : List (Ent U) := [e_rrep_ack, e_ext_Get, e_cursor_New, e_cursor_Text, e_cursor_Num]
noncomputable def g_rrep_Get : (List UInt8) × Unit → Option ((S_api_Msg × Int × Int × Unit) × Unit) := runFn (U := U) Tryz.prog es_rrep_Get ad_rrep_Get 0 Tryz.f198 sg_rrep_Get
noncomputable def e_rrep_Get : Ent U := ⟨198, sg_rrep_Get, g_rrep_Get⟩
def sg_aodv_get : Sig τ := ⟨[(false, T_string)], [T_api_Msg, T_int, T_api_Errno]⟩
def ad_aodv_get : Adv := ⟨26, [[0, 2], [0, 2, 6], [0, 2, 6, 7], [2, 3, 4], [0, 2, 14], [2, 3, 4], [2, 3, 4]], [], []⟩
noncomputable def es_aodv_get : List (Ent U) := [e_rreq_Get, e_rerr_Get, e_rrep_Get]
noncomputable def g_aodv_get : (List UInt8) × Unit → Option ((S_api_Msg × Int × Int × Unit) × Unit) := runFn (U := U) Tryz.prog es_aodv_get ad_aodv_get 0 Tryz.f142 sg_aodv_get
noncomputable def e_aodv_get : Ent U := ⟨142, sg_aodv_get, g_aodv_get⟩
def sg_aodv_Parse : Sig τ := ⟨[(false, T_string)], [T_list_api_Msg, T_int, T_api_Errno]⟩
def ad_aodv_Parse : Adv := ⟨37, [[0], [0, 8], [2, 3, 4], [0, 12], [2, 3, 4], [0, 16], [2, 3, 4], [5, 6, 7], [5, 6, 7, 32], [2, 3, 4], [2, 3, 4]], [], []⟩
noncomputable def es_aodv_Parse : List (Ent U) := [e_aodv_get]
noncomputable def g_aodv_Parse : (List UInt8) × Unit → Option (((List S_api_Msg) × Int × Int × Unit) × Unit) := runFn (U := U) Tryz.prog es_aodv_Parse ad_aodv_Parse 0 Tryz.f82 sg_aodv_Parse
noncomputable def e_aodv_Parse : Ent U := ⟨82, sg_aodv_Parse, g_aodv_Parse⟩
def sg_frame_size : Sig τ := ⟨[(false, T_string)], [T_int]⟩
def ad_frame_size : Adv := ⟨11, [[0], [2]], [], []⟩
noncomputable def es_frame_size : List (Ent U) := []
noncomputable def g_frame_size : (List UInt8) × Unit → Option ((Int × Unit) × Unit) := runFn (U := U) Tryz.prog es_frame_size ad_frame_size 0 Tryz.f208 sg_frame_size
noncomputable def e_frame_size : Ent U := ⟨208, sg_frame_size, g_frame_size⟩
def sg_frame_Body : Sig τ := ⟨[(false, T_string)], [T_string, T_int, T_api_Errno]⟩
def ad_frame_Body : Adv := ⟨35, [[0], [0, 5], [0, 5, 8], [2, 3, 4], [0, 5, 11], [2, 3, 4], [0, 5, 15], [2, 3, 4], [0, 5, 19], [2, 3, 4], [0, 5, 23], [2, 3, 4], [2, 3, 4]], [], []⟩
noncomputable def es_frame_Body : List (Ent U) := [e_frame_size]
noncomputable def g_frame_Body : (List UInt8) × Unit → Option (((List UInt8) × Int × Int × Unit) × Unit) := runFn (U := U) Tryz.prog es_frame_Body ad_frame_Body 0 Tryz.f149 sg_frame_Body
noncomputable def e_frame_Body : Ent U := ⟨149, sg_frame_Body, g_frame_Body⟩
def sg_frame_next : Sig τ := ⟨[(false, T_api_Cur)], [T_api_Tlv, T_api_Cur]⟩
def ad_frame_next : Adv := ⟨34, [[1, 2, 3], [1, 2, 3, 4], [1, 2, 3, 4], [1, 2, 3, 4, 17], [2, 3], [1, 2, 3, 4, 5], [1, 2, 3, 4], [2, 3]], [], []⟩
noncomputable def es_frame_next : List (Ent U) := [e_cursor_Num, e_cursor_Text]
noncomputable def g_frame_next : S_api_Cur × Unit → Option ((S_api_Tlv × S_api_Cur × Unit) × Unit) := runFn (U := U) Tryz.prog es_frame_next ad_frame_next 0 Tryz.f210 sg_frame_next
noncomputable def e_frame_next : Ent U := ⟨210, sg_frame_next, g_frame_next⟩
def sg_frame_Split : Sig τ := ⟨[(false, T_string), (false, T_int)], [T_list_api_Tlv, T_int, T_api_Errno]⟩
def ad_frame_Split : Adv := ⟨37, [[0, 1], [0, 1, 7], [1, 7, 8], [1, 7, 8, 15], [1, 7, 8, 9, 10], [1, 7, 8, 9, 10], [1, 7, 8, 9, 10, 27], [4, 5, 6], [1, 7, 8], [1, 7, 35], [1, 7, 8], [4, 5, 6]], [30], []⟩
noncomputable def es_frame_Split : List (Ent U) := [e_cursor_New, e_cursor_Left, e_frame_next]
noncomputable def h_frame_Split (n : Nat) : (List UInt8) × Int × Unit → Option (((List S_api_Tlv) × Int × Int × Unit) × Unit) := runFn (U := U) Tryz.prog es_frame_Split ad_frame_Split n Tryz.f150 sg_frame_Split
noncomputable def g_frame_Split : (List UInt8) × Int × Unit → Option (((List S_api_Tlv) × Int × Int × Unit) × Unit) := h_frame_Split fuel
noncomputable def e_frame_Split : Ent U := ⟨150, sg_frame_Split, g_frame_Split⟩
noncomputable def fn_frame_Split := lp (tab es_frame_Split) ad_frame_Split Tryz.f150 0 sg_frame_Split
noncomputable def L_frame_Split_0 (n m : Nat) (a1 : Int) (x7 : List S_api_Tlv) (x8_0 : List UInt8) (x8_1 : Int) (x8_2 : Int) (x8_3 : Bool) : Option (((List S_api_Tlv) × Int × Int × Unit) × Unit) :=
  fn_frame_Split n [.r, .r, .l, .r, .l, .at m] [(1, .one (.int .i64 a1)), (7, .one (.sl 149 x7 .app)), (8, .box [.str x8_0, .int .i64 x8_1, .int .i64 x8_2, .bool x8_3])]
def sg_frame_Trailer : Sig τ := ⟨[(false, T_string)], [T_string]⟩
def ad_frame_Trailer : Adv := ⟨8, [[0], [2]], [], []⟩
noncomputable def es_frame_Trailer : List (Ent U) := [e_frame_size]
noncomputable def g_frame_Trailer : (List UInt8) × Unit → Option (((List UInt8) × Unit) × Unit) := runFn (U := U) Tryz.prog es_frame_Trailer ad_frame_Trailer 0 Tryz.f151 sg_frame_Trailer
noncomputable def e_frame_Trailer : Ent U := ⟨151, sg_frame_Trailer, g_frame_Trailer⟩
def sg_sub_Get : Sig τ := ⟨[(false, T_string)], [T_list_api_Sub, T_bool, T_api_Errno]⟩
def ad_sub_Get : Adv := ⟨49, [[0], [5, 7], [5, 7, 19], [2, 3, 4], [5, 8], [5, 8, 9], [8, 9, 21, 22, 23], [8, 9, 21, 22, 23, 24], [8, 9, 11, 21, 22, 23], [8, 9, 11, 21, 22, 23, 27], [8, 9, 21, 22, 23], [8, 9, 11, 21, 22, 23, 31], [8, 9, 21, 22, 23], [8, 9, 21, 22, 23], [8, 9, 46], [2, 3, 4], [2, 3, 4]], [35], []⟩
noncomputable def es_sub_Get : List (Ent U) := [e_frame_Split, e_msg_Bytes]
noncomputable def h_sub_Get (n : Nat) : (List UInt8) × Unit → Option (((List S_api_Sub) × Bool × Int × Unit) × Unit) := runFn (U := U) Tryz.prog es_sub_Get ad_sub_Get n Tryz.f284 sg_sub_Get
noncomputable def g_sub_Get : (List UInt8) × Unit → Option (((List S_api_Sub) × Bool × Int × Unit) × Unit) := h_sub_Get fuel
noncomputable def e_sub_Get : Ent U := ⟨284, sg_sub_Get, g_sub_Get⟩
noncomputable def fn_sub_Get := lp (tab es_sub_Get) ad_sub_Get Tryz.f284 0 sg_sub_Get
noncomputable def L_sub_Get_0 (n m : Nat) (r1 : ((List S_api_Tlv) × Int × Int × Unit) × Unit) (x8 : List S_api_Sub) (x9 : Bool) (x23 : Int) : Option (((List S_api_Sub) × Bool × Int × Unit) × Unit) :=
  fn_sub_Get n [.r, .r, .r, .r, .r, .l, .r, .l, .at m] [(8, .one (.sl 96 x8 .app)), (9, .one (.bool x9)), (21, .one (.sl 149 r1.1.1 .ro)), (22, .one (.int .i64 (r1.1.1.length : Int))), (23, .one (.int .i64 x23))]
def sg_ctx_counts : Sig τ := ⟨[(false, T_string), (false, T_int)], [T_bool, T_api_Errno]⟩
def ad_ctx_counts : Adv := ⟨23, [[0, 1], [0, 1, 12], [4, 5], [7, 8], [4, 5]], [], []⟩
noncomputable def es_ctx_counts : List (Ent U) := [e_sub_Get]
noncomputable def g_ctx_counts : (List UInt8) × Int × Unit → Option ((Bool × Int × Unit) × Unit) := runFn (U := U) Tryz.prog es_ctx_counts ad_ctx_counts 0 Tryz.f294 sg_ctx_counts
noncomputable def e_ctx_counts : Ent U := ⟨294, sg_ctx_counts, g_ctx_counts⟩
def sg_ctx_stepper_id : Sig τ := ⟨[(true, T_ctx_stepper), (false, T_string)], [T_api_Errno]⟩
def ad_ctx_stepper_id : Adv := ⟨20, [[0, 1], [0, 1, 5, 6], [0, 1, 6, 12], [6], [4]], [], []⟩
noncomputable def es_ctx_stepper_id : List (Ent U) := [e_ctx_counts]
noncomputable def g_ctx_stepper_id : S_ctx_stepper × (List UInt8) × Unit → Option ((Int × Unit) × (S_ctx_stepper × Unit)) := runFn (U := U) Tryz.prog es_ctx_stepper_id ad_ctx_stepper_id 0 Tryz.f279 sg_ctx_stepper_id
noncomputable def e_ctx_stepper_id : Ent U := ⟨279, sg_ctx_stepper_id, g_ctx_stepper_id⟩
def sg_addr_Long : Sig τ := ⟨[(false, T_string)], [T_string, T_bool]⟩
def ad_addr_Long : Adv := ⟨9, [[0], [0, 6], [2, 3], [2, 3]], [], []⟩
noncomputable def es_addr_Long : List (Ent U) := []
noncomputable def g_addr_Long : (List UInt8) × Unit → Option (((List UInt8) × Bool × Unit) × Unit) := runFn (U := U) Tryz.prog es_addr_Long ad_addr_Long 0 Tryz.f295 sg_addr_Long
noncomputable def e_addr_Long : Ent U := ⟨295, sg_addr_Long, g_addr_Long⟩
def sg_ctx_stepper_hop : Sig τ := ⟨[(true, T_ctx_stepper), (false, T_string)], [T_api_Errno]⟩
def ad_ctx_stepper_hop : Adv := ⟨53, [[0, 1], [0, 1, 12], [4], [0, 1, 5], [0, 1, 5, 21], [4], [0, 1, 5, 6], [0, 1, 5, 6, 7, 8], [0, 1, 5, 6, 8, 33], [4], [0, 5, 9], [0, 5, 9, 39], [0, 5, 9], [], [4]], [], []⟩
noncomputable def es_ctx_stepper_hop : List (Ent U) := [e_ctx_counts, e_addr_Long, e_ctx_Family]
noncomputable def g_ctx_stepper_hop : S_ctx_stepper × (List UInt8) × Unit → Option ((Int × Unit) × (S_ctx_stepper × Unit)) := runFn (U := U) Tryz.prog es_ctx_stepper_hop ad_ctx_stepper_hop 0 Tryz.f280 sg_ctx_stepper_hop
noncomputable def e_ctx_stepper_hop : Ent U := ⟨280, sg_ctx_stepper_hop, g_ctx_stepper_hop⟩
def sg_route_reader_num : Sig τ := ⟨[(true, T_route_reader), (false, T_int)], [T_int]⟩
def ad_route_reader_num : Adv := ⟨21, [[0, 1], [0, 5, 6], [5], [4]], [], []⟩
noncomputable def es_route_reader_num : List (Ent U) := [e_cursor_Num]
noncomputable def g_route_reader_num : S_route_reader × Int × Unit → Option ((Int × Unit) × (S_route_reader × Unit)) := runFn (U := U) Tryz.prog es_route_reader_num ad_route_reader_num 0 Tryz.f285 sg_route_reader_num
noncomputable def e_route_reader_num : Ent U := ⟨285, sg_route_reader_num, g_route_reader_num⟩
def sg_route_reader_text : Sig τ := ⟨[(true, T_route_reader), (false, T_int)], [T_string]⟩
def ad_route_reader_text : Adv := ⟨21, [[0, 1], [0, 5, 6], [5], [4]], [], []⟩
noncomputable def es_route_reader_text : List (Ent U) := [e_cursor_Text]
noncomputable def g_route_reader_text : S_route_reader × Int × Unit → Option (((List UInt8) × Unit) × (S_route_reader × Unit)) := runFn (U := U) Tryz.prog es_route_reader_text ad_route_reader_text 0 Tryz.f286 sg_route_reader_text
noncomputable def e_route_reader_text : Ent U := ⟨286, sg_route_reader_text, g_route_reader_text⟩
def sg_route_reader_prefix : Sig τ := ⟨[(true, T_route_reader), (false, T_int), (false, T_int), (false, T_int)], [T_string, T_api_Errno]⟩
def ad_route_reader_prefix : Adv := ⟨46, [[0, 1, 2, 3], [0, 2, 3, 10], [0, 2, 10, 11], [0, 11, 36], [8, 9], [0, 12], [12, 44], [8, 9], [8, 9]], [], []⟩
noncomputable def es_route_reader_prefix : List (Ent U) := [e_route_shapes, e_prefix_Least, e_route_reader_text]
noncomputable def g_route_reader_prefix : S_route_reader × Int × Int × Int × Unit → Option (((List UInt8) × Int × Unit) × (S_route_reader × Unit)) := runFn (U := U) Tryz.prog es_route_reader_prefix ad_route_reader_prefix 0 Tryz.f287 sg_route_reader_prefix
noncomputable def e_route_reader_prefix : Ent U := ⟨287, sg_route_reader_prefix, g_route_reader_prefix⟩
def sg_route_reader_rest : Sig τ := ⟨[(true, T_route_reader)], [T_list_api_Sub, T_bool, T_api_Errno]⟩
def ad_route_reader_rest : Adv := ⟨16, [[0], [2, 3, 4]], [], []⟩
noncomputable def es_route_reader_rest : List (Ent U) := [e_cursor_Left, e_route_reader_text, e_sub_Get]
noncomputable def g_route_reader_rest : S_route_reader × Unit → Option (((List S_api_Sub) × Bool × Int × Unit) × (S_route_reader × Unit)) := runFn (U := U) Tryz.prog es_route_reader_rest ad_route_reader_rest 0 Tryz.f288 sg_route_reader_rest
noncomputable def e_route_reader_rest : Ent U := ⟨288, sg_route_reader_rest, g_route_reader_rest⟩
def sg_route_Take : Sig τ := ⟨[(false, T_api_Tlv)], [T_api_Raw, T_bool, T_api_Errno]⟩
def ad_route_Take : Adv := ⟨93, [[1, 2], [2, 5], [2, 5, 6], [2, 5, 6, 24, 25, 26], [2, 5, 6, 24, 25, 26, 27], [2, 5, 6, 8, 24, 25, 26], [2, 5, 6, 24, 25, 26], [2, 5, 6, 24, 25, 26], [2, 5, 6, 38, 39, 40], [2, 5, 6, 38, 39, 40, 41], [2, 5, 6, 10, 38, 39, 40], [2, 5, 6, 38, 39, 40], [2, 5, 6, 38, 39, 40], [2, 5, 6, 49], [2, 3, 4], [2, 5, 6, 56], [2, 3, 4], [2, 5, 6, 11, 12], [2, 5, 6, 11, 12, 73], [2, 3, 4], [2, 6, 11, 12, 13, 14], [2, 6, 11, 12, 13, 14, 83], [2, 3, 4], [2, 6, 14], [2, 6, 90], [2, 6], [2, 3, 4]], [], []⟩
noncomputable def es_route_Take : List (Ent U) := [e_cursor_New, e_route_reader_num, e_route_reader_prefix, e_route_reader_rest]
noncomputable def h_route_Take (n : Nat) : S_api_Tlv × Unit → Option ((S_api_Raw × Bool × Int × Unit) × Unit) := runFn (U := U) Tryz.prog es_route_Take ad_route_Take n Tryz.f296 sg_route_Take
noncomputable def g_route_Take : S_api_Tlv × Unit → Option ((S_api_Raw × Bool × Int × Unit) × Unit) := h_route_Take fuel
noncomputable def e_route_Take : Ent U := ⟨296, sg_route_Take, g_route_Take⟩
noncomputable def fn_route_Take := lp (tab es_route_Take) ad_route_Take Tryz.f296 0 sg_route_Take
noncomputable def L_route_Take_0 (n m : Nat) (x6_0 : Int) (x6_1 : Int) (x6_2 : Int) (x6_3 : Int) (x19_0 : List UInt8) (x19_1 : Int) (x19_2 : Int) (x19_3 : Bool) (x26 : Int) : Option ((S_api_Raw × Bool × Int × Unit) × Unit) :=
  fn_route_Take n [.r, .r, .r, .l, .r, .l, .at m] [(2, .box [.int .i64 0, .int .i64 0, .int .i64 0, .int .i64 0, .int .i64 0, .int .i64 0, .int .i64 0, .int .i64 0, .str ([] : List UInt8), .sl 96 [] .app]), (5, .one (.ref 19 0)), (6, .box [.int .i64 x6_0, .int .i64 x6_1, .int .i64 x6_2, .int .i64 x6_3, .int .i64 0, .int .i64 0, .int .i64 0, .int .i64 0, .str ([] : List UInt8), .sl 96 [] .app]), (19, .box [.str x19_0, .int .i64 x19_1, .int .i64 x19_2, .bool x19_3]), (24, .one (.prow 6 [0, 1, 2, 3])), (25, .one (.int .i64 4)), (26, .one (.int .i64 x26))]
noncomputable def L_route_Take_1 (n m : Nat) (x6_0 : Int) (x6_1 : Int) (x6_2 : Int) (x6_3 : Int) (x6_4 : Int) (x6_5 : Int) (x6_6 : Int) (x19_0 : List UInt8) (x19_1 : Int) (x19_2 : Int) (x19_3 : Bool) (x40 : Int) : Option ((S_api_Raw × Bool × Int × Unit) × Unit) :=
  fn_route_Take n [.r, .r, .r, .r, .l, .r, .l, .at m] [(2, .box [.int .i64 0, .int .i64 0, .int .i64 0, .int .i64 0, .int .i64 0, .int .i64 0, .int .i64 0, .int .i64 0, .str ([] : List UInt8), .sl 96 [] .app]), (5, .one (.ref 19 0)), (6, .box [.int .i64 x6_0, .int .i64 x6_1, .int .i64 x6_2, .int .i64 x6_3, .int .i64 x6_4, .int .i64 x6_5, .int .i64 x6_6, .int .i64 0, .str ([] : List UInt8), .sl 96 [] .app]), (19, .box [.str x19_0, .int .i64 x19_1, .int .i64 x19_2, .bool x19_3]), (38, .one (.prow 6 [4, 5, 6])), (39, .one (.int .i64 3)), (40, .one (.int .i64 x40))]
def sg_prefix_Fill : Sig τ := ⟨[(false, T_string), (false, T_int)], [T_string]⟩
def ad_prefix_Fill : Adv := ⟨18, [[0, 1], [0, 1, 9], [4], [0, 5], [5], [4]], [], []⟩
noncomputable def es_prefix_Fill : List (Ent U) := []
noncomputable def g_prefix_Fill : (List UInt8) × Int × Unit → Option (((List UInt8) × Unit) × Unit) := runFn (U := U) Tryz.prog es_prefix_Fill ad_prefix_Fill 0 Tryz.f301 sg_prefix_Fill
noncomputable def e_prefix_Fill : Ent U := ⟨301, sg_prefix_Fill, g_prefix_Fill⟩
def sg_ctx_stepper_address : Sig τ := ⟨[(true, T_ctx_stepper), (false, T_api_Raw)], [T_string, T_bool]⟩
def ad_ctx_stepper_address : Adv := ⟨56, [[0, 3], [0, 3, 6, 7], [0, 3, 6, 7, 16], [0, 3, 6, 7], [3, 6, 7, 8], [3, 6, 7, 8, 27], [3, 6, 7, 8], [3, 6, 7, 8, 29], [4, 5], [3, 6, 7, 8], [3, 7, 9], [3, 9, 46], [3, 9], [4, 5]], [], []⟩
noncomputable def es_ctx_stepper_address : List (Ent U) := [e_prefix_Fill, e_addr_Long, e_bits_Keep]
noncomputable def g_ctx_stepper_address : S_ctx_stepper × S_api_Raw × Unit → Option (((List UInt8) × Bool × Unit) × (S_ctx_stepper × Unit)) := runFn (U := U) Tryz.prog es_ctx_stepper_address ad_ctx_stepper_address 0 Tryz.f297 sg_ctx_stepper_address
noncomputable def e_ctx_stepper_address : Ent U := ⟨297, sg_ctx_stepper_address, g_ctx_stepper_address⟩
def sg_ctx_stepper_flags : Sig τ := ⟨[(true, T_ctx_stepper), (false, T_api_Raw), (false, T_string)], []⟩
def ad_ctx_stepper_flags : Adv := ⟨38, [[0, 2, 4], [0, 2, 4, 9], [0, 2, 4, 13], [0, 2, 4], [0, 2, 25], [0, 6], []], [], []⟩
noncomputable def es_ctx_stepper_flags : List (Ent U) := [e_octet_Zeros]
noncomputable def g_ctx_stepper_flags : S_ctx_stepper × S_api_Raw × (List UInt8) × Unit → Option ((Unit) × (S_ctx_stepper × Unit)) := runFn (U := U) Tryz.prog es_ctx_stepper_flags ad_ctx_stepper_flags 0 Tryz.f298 sg_ctx_stepper_flags
noncomputable def e_ctx_stepper_flags : Ent U := ⟨298, sg_ctx_stepper_flags, g_ctx_stepper_flags⟩
def sg_ctx_stepper_told : Sig τ := ⟨[(true, T_ctx_stepper), (false, T_api_Raw)], [T_bool]⟩
def ad_ctx_stepper_told : Adv := ⟨26, [[0, 3], [4]], [], []⟩
noncomputable def es_ctx_stepper_told : List (Ent U) := []
noncomputable def g_ctx_stepper_told : S_ctx_stepper × S_api_Raw × Unit → Option ((Bool × Unit) × (S_ctx_stepper × Unit)) := runFn (U := U) Tryz.prog es_ctx_stepper_told ad_ctx_stepper_told 0 Tryz.f299 sg_ctx_stepper_told
noncomputable def e_ctx_stepper_told : Ent U := ⟨299, sg_ctx_stepper_told, g_ctx_stepper_told⟩
def sg_ctx_stepper_update : Sig τ := ⟨[(true, T_ctx_stepper), (false, T_api_Tlv)], [T_list_api_Msg, T_api_Errno]⟩
def ad_ctx_stepper_update : Adv := ⟨71, [[0, 3], [0, 6, 7, 8], [0, 6, 8, 18], [4, 5], [0, 6, 7, 9], [0, 6, 9, 27], [4, 5], [0, 6, 9], [0, 6, 9, 35], [4, 5], [0, 10], [0, 10, 52], [10], [4, 5]], [], []⟩
noncomputable def es_ctx_stepper_update : List (Ent U) := [e_route_Take, e_ctx_stepper_address, e_ctx_stepper_flags, e_ctx_stepper_told, e_ctx_Family]
noncomputable def g_ctx_stepper_update : S_ctx_stepper × S_api_Tlv × Unit → Option (((List S_api_Msg) × Int × Unit) × (S_ctx_stepper × Unit)) := runFn (U := U) Tryz.prog es_ctx_stepper_update ad_ctx_stepper_update 0 Tryz.f281 sg_ctx_stepper_update
noncomputable def e_ctx_stepper_update : Ent U := ⟨281, sg_ctx_stepper_update, g_ctx_stepper_update⟩
def sg_ctx_Step : Sig τ := ⟨[(false, T_api_Ctx), (false, T_api_Tlv)], [T_api_Ctx, T_list_api_Msg, T_api_Errno]⟩
def ad_ctx_Step : Adv := ⟨41, [[2, 3, 4], [3, 4, 7], [3, 4, 7, 8], [3, 4, 7, 8, 9], [3, 4, 7, 8, 9, 14], [3, 4, 7, 8, 9, 14, 15], [4, 7, 8, 9], [3, 4, 7, 8, 9, 14, 21], [4, 7, 8, 9], [3, 4, 7, 8, 9, 27], [4, 7, 8, 9], [4, 5, 6]], [], []⟩
noncomputable def es_ctx_Step : List (Ent U) := [e_ctx_stepper_id, e_ctx_stepper_hop, e_ctx_stepper_update]
noncomputable def g_ctx_Step : S_api_Ctx × S_api_Tlv × Unit → Option ((S_api_Ctx × (List S_api_Msg) × Int × Unit) × Unit) := runFn (U := U) Tryz.prog es_ctx_Step ad_ctx_Step 0 Tryz.f254 sg_ctx_Step
noncomputable def e_ctx_Step : Ent U := ⟨254, sg_ctx_Step, g_ctx_Step⟩
def sg_field_reader_two : Sig τ := ⟨[(true, T_field_reader)], [T_int]⟩
def ad_field_reader_two : Adv := ⟨18, [[0], [0, 3, 4], [3], [2]], [], []⟩
noncomputable def es_field_reader_two : List (Ent U) := [e_cursor_Num]
noncomputable def g_field_reader_two : S_field_reader × Unit → Option ((Int × Unit) × (S_field_reader × Unit)) := runFn (U := U) Tryz.prog es_field_reader_two ad_field_reader_two 0 Tryz.f282 sg_field_reader_two
noncomputable def e_field_reader_two : Ent U := ⟨282, sg_field_reader_two, g_field_reader_two⟩
def sg_field_reader_addr : Sig τ := ⟨[(true, T_field_reader), (false, T_int)], [T_string]⟩
def ad_field_reader_addr : Adv := ⟨36, [[0, 1], [0, 1, 5, 6], [1, 5], [1, 5, 7, 8], [5, 7, 33], [4], [4]], [], []⟩
noncomputable def es_field_reader_addr : List (Ent U) := [e_cursor_Text, e_addr_Long]
noncomputable def g_field_reader_addr : S_field_reader × Int × Unit → Option (((List UInt8) × Unit) × (S_field_reader × Unit)) := runFn (U := U) Tryz.prog es_field_reader_addr ad_field_reader_addr 0 Tryz.f283 sg_field_reader_addr
noncomputable def e_field_reader_addr : Ent U := ⟨283, sg_field_reader_addr, g_field_reader_addr⟩
def sg_field_Get : Sig τ := ⟨[(false, T_api_Tlv)], [T_api_Msg, T_bool, T_api_Errno]⟩
def ad_field_Get : Adv := ⟨103, [[1, 2], [1, 2, 5], [1, 2, 5, 6], [1, 2, 5, 6, 21], [1, 2, 5, 6, 21, 22], [1, 2, 5, 6], [1, 2, 5, 6], [1, 2, 5, 6, 21, 32], [1, 2, 5, 6], [1, 2, 5, 6, 21, 37], [1, 2, 5, 6], [1, 2, 5, 6, 49], [1, 2, 5, 6], [1, 2, 5, 6, 63], [1, 2, 5, 6], [1, 2, 5, 6, 73], [2, 3, 4], [1, 2, 5, 6, 77], [2, 3, 4], [2, 6, 7, 8, 9], [2, 6, 7, 9, 97], [2, 3, 4], [2, 6], [2, 3, 4]], [], []⟩
noncomputable def es_field_Get : List (Ent U) := [e_cursor_New, e_field_reader_two, e_sub_Get, e_field_reader_addr]
noncomputable def g_field_Get : S_api_Tlv × Unit → Option ((S_api_Msg × Bool × Int × Unit) × Unit) := runFn (U := U) Tryz.prog es_field_Get ad_field_Get 0 Tryz.f255 sg_field_Get
noncomputable def e_field_Get : Ent U := ⟨255, sg_field_Get, g_field_Get⟩
def sg_route_whole : Sig τ := ⟨[(false, T_int), (false, T_string), (false, T_int)], [T_string]⟩
def ad_route_whole : Adv := ⟨29, [[0, 1, 2], [0, 1, 2, 7], [0, 2, 8], [2, 8, 20], [2, 8], [6]], [], []⟩
noncomputable def es_route_whole : List (Ent U) := [e_route_shapes, e_prefix_Fill, e_addr_Long, e_bits_Keep]
noncomputable def g_route_whole : Int × (List UInt8) × Int × Unit → Option (((List UInt8) × Unit) × Unit) := runFn (U := U) Tryz.prog es_route_whole ad_route_whole 0 Tryz.f289 sg_route_whole
noncomputable def e_route_whole : Ent U := ⟨289, sg_route_whole, g_route_whole⟩
def sg_route_Get : Sig τ := ⟨[(false, T_api_Tlv)], [T_api_Msg, T_bool, T_api_Errno]⟩
def ad_route_Get : Adv := ⟨102, [[1, 2], [1, 2, 5], [1, 2, 5, 6], [1, 2, 5, 6], [1, 2, 5, 6, 25], [1, 2, 5, 6], [1, 2, 5, 6], [1, 2, 5, 6], [1, 2, 5, 6], [1, 2, 5, 6, 38], [2, 3, 4], [1, 2, 5, 6, 45], [2, 3, 4], [1, 2, 5, 6, 7, 8], [1, 2, 5, 6, 7, 8, 60], [2, 3, 4], [1, 2, 6, 7, 8, 9, 10], [2, 6, 7, 8, 9, 89], [2, 3, 4], [2, 6], [2, 3, 4]], [], []⟩
noncomputable def es_route_Get : List (Ent U) := [e_cursor_New, e_route_reader_num, e_route_reader_text, e_route_reader_prefix, e_route_reader_rest, e_route_whole]
noncomputable def g_route_Get : S_api_Tlv × Unit → Option ((S_api_Msg × Bool × Int × Unit) × Unit) := runFn (U := U) Tryz.prog es_route_Get ad_route_Get 0 Tryz.f256 sg_route_Get
noncomputable def e_route_Get : Ent U := ⟨256, sg_route_Get, g_route_Get⟩
def sg_intake_one : Sig τ := ⟨[(false, T_api_Ctx), (false, T_api_Tlv)], [T_api_Ctx, T_list_api_Msg, T_api_Errno]⟩
def ad_intake_one : Adv := ⟨62, [[2, 3, 4], [2, 3, 4, 7], [2, 3, 4, 7], [2, 3, 4, 7, 9], [2, 3, 4, 7, 9, 11], [2, 4, 7, 8, 9], [2, 3, 4, 7, 9, 11, 17], [2, 3, 4, 7, 9, 11, 17], [4, 5, 6], [2, 3, 4, 7, 9, 11, 21], [2, 3, 4, 7, 9, 11, 21], [2, 3, 4, 7, 9, 11, 21], [4, 5, 6], [2, 3, 4, 7, 9, 11, 31], [2, 3, 4, 7, 9, 11, 31], [2, 3, 4, 7, 9, 11, 31], [2, 3, 4, 7, 9, 11, 31], [2, 4, 7, 8, 9], [2, 3, 4, 7, 9, 11, 42], [2, 3, 4, 7, 9, 42], [2, 4, 7, 8, 9], [2, 4, 7, 9, 56], [4, 5, 6], [4, 5, 6]], [], [999999]⟩
noncomputable def es_intake_one : List (Ent U) := [e_ctx_Step, e_field_Get, e_route_Get]
noncomputable def g_intake_one : S_api_Ctx × S_api_Tlv × Unit → Option ((S_api_Ctx × (List S_api_Msg) × Int × Unit) × Unit) := runFn (U := U) Tryz.prog es_intake_one ad_intake_one 0 Tryz.f211 sg_intake_one
noncomputable def e_intake_one : Ent U := ⟨211, sg_intake_one, g_intake_one⟩
def sg_intake_Fold : Sig τ := ⟨[(false, T_list_api_Tlv)], [T_list_api_Msg, T_api_Ctx, T_int, T_api_Errno]⟩
def ad_intake_Fold : Adv := ⟨43, [[0, 3], [0, 3, 6], [0, 3, 6, 7], [0, 3, 6, 7, 13, 14], [0, 3, 6, 7, 13, 14, 15], [0, 3, 6, 7, 8, 13, 14], [0, 3, 6, 7, 8, 9, 10, 11, 13, 14], [0, 3, 6, 7, 8, 9, 10, 11, 13, 14, 28], [2, 3, 4, 5], [0, 3, 6, 7, 10, 13, 14], [0, 3, 6, 7, 13, 14], [0, 3, 6, 7, 13, 14], [2, 3, 4, 5]], [37], []⟩
noncomputable def es_intake_Fold : List (Ent U) := [e_intake_one]
noncomputable def h_intake_Fold (n : Nat) : (List S_api_Tlv) × Unit → Option (((List S_api_Msg) × S_api_Ctx × Int × Int × Unit) × Unit) := runFn (U := U) Tryz.prog es_intake_Fold ad_intake_Fold n Tryz.f152 sg_intake_Fold
noncomputable def g_intake_Fold : (List S_api_Tlv) × Unit → Option (((List S_api_Msg) × S_api_Ctx × Int × Int × Unit) × Unit) := h_intake_Fold fuel
noncomputable def e_intake_Fold : Ent U := ⟨152, sg_intake_Fold, g_intake_Fold⟩
noncomputable def fn_intake_Fold := lp (tab es_intake_Fold) ad_intake_Fold Tryz.f152 0 sg_intake_Fold
noncomputable def L_intake_Fold_0 (n m : Nat) (a0 : List S_api_Tlv) (x6 : List S_api_Msg) (x7_0 : List UInt8) (x7_1 : List UInt8) (x7_2 : List UInt8) (x7_3 : List UInt8) (x7_4 : List UInt8) (x7_5 : List UInt8) (x7_6 : List UInt8) (x14 : Int) : Option (((List S_api_Msg) × S_api_Ctx × Int × Int × Unit) × Unit) :=
  fn_intake_Fold n [.r, .r, .r, .l, .r, .l, .at m] [(0, .one (.sl 149 a0 .ro)), (3, .box [.str ([] : List UInt8), .str ([] : List UInt8), .str ([] : List UInt8), .str ([] : List UInt8), .str ([] : List UInt8), .str ([] : List UInt8), .str ([] : List UInt8)]), (6, .one (.sl 77 x6 .app)), (7, .box [.str x7_0, .str x7_1, .str x7_2, .str x7_3, .str x7_4, .str x7_5, .str x7_6]), (13, .one (.int .i64 (a0.length : Int))), (14, .one (.int .i64 x14))]
def sg_intake_Parse : Sig τ := ⟨[(false, T_string)], [T_list_api_Msg, T_int, T_api_Errno]⟩
def ad_intake_Parse : Adv := ⟨55, [[0], [0, 5, 6, 7], [0, 5, 6, 7, 18], [2, 3, 4], [0, 5, 6, 7, 8], [0, 5, 6, 7, 8, 28], [2, 3, 4], [6, 7, 8], [6, 7, 8, 42], [2, 3, 4], [6, 7, 9], [2, 3, 4]], [], []⟩
noncomputable def es_intake_Parse : List (Ent U) := [e_frame_Body, e_frame_Split, e_frame_Trailer, e_intake_Fold]
noncomputable def g_intake_Parse : (List UInt8) × Unit → Option (((List S_api_Msg) × Int × Int × Unit) × Unit) := runFn (U := U) Tryz.prog es_intake_Parse ad_intake_Parse 0 Tryz.f85 sg_intake_Parse
noncomputable def e_intake_Parse : Ent U := ⟨85, sg_intake_Parse, g_intake_Parse⟩
def sg_suite_Parse : Sig τ := ⟨[(false, T_int), (false, T_string)], [T_list_api_Msg, T_int, T_api_Errno]⟩
def ad_suite_Parse : Adv := ⟨23, [[0, 1], [1, 7, 8], [1, 7, 15], [4, 5, 6], [4, 5, 6]], [], []⟩
noncomputable def es_suite_Parse : List (Ent U) := [e_rip_Parse, e_ripng_Parse, e_aodv_Parse, e_intake_Parse]
noncomputable def ph0_suite_Parse : Tab U := inl Tryz.prog 44 (tab es_suite_Parse) ad_suite_of 0 Tryz.f44 (tab es_suite_Parse)
noncomputable def g_suite_Parse : Int × (List UInt8) × Unit → Option (((List S_api_Msg) × Int × Int × Unit) × Unit) := runPh (U := U) Tryz.prog ph0_suite_Parse ad_suite_Parse 0 Tryz.f27 sg_suite_Parse
noncomputable def e_suite_Parse : Ent U := ⟨27, sg_suite_Parse, g_suite_Parse⟩
def sg_desk_Desk_Parse : Sig τ := ⟨[(true, T_desk_Desk), (false, T_int), (false, T_string)], [T_list_api_Msg, T_int, T_api_Errno]⟩
def ad_desk_Desk_Parse : Adv := ⟨31, [[0, 1, 2], [0, 1, 2, 15], [6, 7, 8], [0, 2, 9, 10, 11], [9, 10, 11], [6, 7, 8]], [], [999999]⟩
noncomputable def es_desk_Desk_Parse : List (Ent U) := [e_sync_atomic_Bool_Load, e_suite_Parse, e_desk_Desk_count]
noncomputable def g_desk_Desk_Parse : S_desk_Desk × Int × (List UInt8) × Unit → Option (((List S_api_Msg) × Int × Int × Unit) × (S_desk_Desk × Unit)) := runFn (U := U) Tryz.prog es_desk_Desk_Parse ad_desk_Desk_Parse 0 Tryz.f17 sg_desk_Desk_Parse
noncomputable def e_desk_Desk_Parse : Ent U := ⟨17, sg_desk_Desk_Parse, g_desk_Desk_Parse⟩
def sg_ref07_SameAll : Sig τ := ⟨[(false, T_list_api_Msg), (false, T_list_api_Msg)], [T_bool]⟩
def ad_ref07_SameAll : Adv := ⟨27, [[0, 1], [0, 1, 10], [4], [0, 1, 5], [0, 1, 5, 14], [0, 1, 5], [0, 1, 5, 26], [4], [4]], [], []⟩
noncomputable def es_ref07_SameAll : List (Ent U) := [e_ref07_Same]
noncomputable def h_ref07_SameAll (n : Nat) : (List S_api_Msg) × (List S_api_Msg) × Unit → Option ((Bool × Unit) × Unit) := runFn (U := U) Tryz.prog es_ref07_SameAll ad_ref07_SameAll n Tryz.f18 sg_ref07_SameAll
noncomputable def g_ref07_SameAll : (List S_api_Msg) × (List S_api_Msg) × Unit → Option ((Bool × Unit) × Unit) := h_ref07_SameAll fuel
noncomputable def e_ref07_SameAll : Ent U := ⟨18, sg_ref07_SameAll, g_ref07_SameAll⟩
noncomputable def fn_ref07_SameAll := lp (tab es_ref07_SameAll) ad_ref07_SameAll Tryz.f18 0 sg_ref07_SameAll
noncomputable def L_ref07_SameAll_0 (n m : Nat) (a0 : List S_api_Msg) (a1 : List S_api_Msg) (x5 : Int) : Option ((Bool × Unit) × Unit) :=
  fn_ref07_SameAll n [.r, .r, .l, .r, .l, .at m] [(0, .one (.sl 77 a0 .ro)), (1, .one (.sl 77 a1 .ro)), (5, .one (.int .i64 x5))]
def sg_sync_atomic_Int64_Load : Sig τ := ⟨[(true, T_atomic_Int64)], [T_int64]⟩
noncomputable def g_sync_atomic_Int64_Load : S_atomic_Int64 × Unit → Option ((Int × Unit) × (S_atomic_Int64 × Unit)) := x_sync_atomic_Int64_Load
noncomputable def e_sync_atomic_Int64_Load : Ent U := ⟨24, sg_sync_atomic_Int64_Load, g_sync_atomic_Int64_Load⟩
def sg_desk_Desk_Stats : Sig τ := ⟨[(true, T_desk_Desk)], [T_int, T_int, T_int]⟩
def ad_desk_Desk_Stats : Adv := ⟨17, [[0], [2, 3, 4]], [], [999999]⟩
noncomputable def es_desk_Desk_Stats : List (Ent U) := [e_sync_atomic_Int64_Load]
noncomputable def g_desk_Desk_Stats : S_desk_Desk × Unit → Option ((Int × Int × Int × Unit) × (S_desk_Desk × Unit)) := runFn (U := U) Tryz.prog es_desk_Desk_Stats ad_desk_Desk_Stats 0 Tryz.f13 sg_desk_Desk_Stats
noncomputable def e_desk_Desk_Stats : Ent U := ⟨13, sg_desk_Desk_Stats, g_desk_Desk_Stats⟩
def sg_top_awake : Sig τ := ⟨[], [T_bool]⟩
def ad_top_awake : Adv := ⟨38, [[], [1], [1, 2, 4], [1, 2, 4, 5, 7], [0]], [], [999999]⟩
noncomputable def es_top_awake : List (Ent U) := [e_suite_Encode, e_suite_Parse, e_ref07_SameAll]
noncomputable def g_top_awake : Unit → Option ((Bool × Unit) × Unit) := runFn (U := U) Tryz.prog es_top_awake ad_top_awake 0 Tryz.f15 sg_top_awake
noncomputable def e_top_awake : Ent U := ⟨15, sg_top_awake, g_top_awake⟩
def sg_top_WholeDesk : Sig τ := ⟨[(false, T_uint8), (false, T_list_api_Msg), (false, T_uint16)], [T_bool]⟩
def ad_top_WholeDesk : Adv := ⟨126, [[0, 1, 2], [0, 1, 2, 7], [0, 1, 2, 7, 31], [6], [1, 2, 7, 8], [1, 7, 8, 9, 11], [1, 7, 8, 9, 48], [12, 13, 14], [6], [1, 7, 8, 9, 15], [1, 7, 8, 9, 15, 16], [1, 7, 8, 9, 15, 16, 17], [1, 7, 8, 9, 15, 16, 17, 71], [1, 7, 8, 9, 15, 16, 17], [1, 7, 8, 9, 15, 16, 17, 18, 20], [1, 7, 8, 9, 15, 16, 17, 18, 86], [6], [1, 7, 8, 9, 15, 16, 17], [1, 7, 8, 9, 15, 16, 17], [1, 9, 15, 16, 21, 22, 23], [6]], [87], [999999]⟩
noncomputable def es_top_WholeDesk : List (Ent U) := [e_ref07_FewAll, e_top_awake, e_desk_Desk_Pack, e_desk_Desk_Stats, e_desk_Desk_Parse, e_ref07_SameAll]
noncomputable def h_top_WholeDesk (n : Nat) : Int × (List S_api_Msg) × Int × Unit → Option ((Bool × Unit) × Unit) := runFn (U := U) Tryz.prog es_top_WholeDesk ad_top_WholeDesk n Tryz.f5 sg_top_WholeDesk
noncomputable def g_top_WholeDesk : Int × (List S_api_Msg) × Int × Unit → Option ((Bool × Unit) × Unit) := h_top_WholeDesk fuel
noncomputable def e_top_WholeDesk : Ent U := ⟨5, sg_top_WholeDesk, g_top_WholeDesk⟩
noncomputable def fn_top_WholeDesk := lp (tab es_top_WholeDesk) ad_top_WholeDesk Tryz.f5 0 sg_top_WholeDesk
noncomputable def L_top_WholeDesk_0 (n m : Nat) (a1 : List S_api_Msg) (r3 : ((List (List UInt8)) × Int × Int × Unit) × (S_desk_Desk × Unit)) (x8 : Int) (x15 : List S_api_Msg) (x16 : Int) (x17 : Int) (x24_0 : Int) (x24_1 : Int) (x24_2 : Int) (x24_4 : Int) (x24_5 : Int) (x24_6 : Int) (x24_7 : Int) : Option ((Bool × Unit) × Unit) :=
  fn_top_WholeDesk n [.r, .r, .r, .r, .r, .r, .r, .r, .l, .r, .l, .at m] [(1, .one (.sl 77 a1 .ro)), (7, .one (.ref 24 0)), (8, .one (.int .i64 x8)), (9, .one (.sl 9 r3.1.1 .ro)), (15, .one (.sl 77 x15 .app)), (16, .one (.int .i64 x16)), (17, .one (.int .i64 x17)), (24, .box [.int .u32 x24_0, .int .i32 x24_1, .int .u32 x24_2, .any, .int .u32 x24_4, .int .i64 x24_5, .int .i64 x24_6, .int .i64 x24_7])]
end Go.VI
