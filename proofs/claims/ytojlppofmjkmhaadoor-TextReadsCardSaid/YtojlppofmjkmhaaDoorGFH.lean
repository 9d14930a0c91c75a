import Derived.Test.YtojlppofmjkmhaaDoorGFTy
import Derived.Test.YtojlppofmjkmhaaDoorGXM
set_option linter.unusedVariables false
set_option linter.unusedSimpArgs false
set_option maxRecDepth 1000000
set_option maxHeartbeats 4000000
namespace Go.VI
open Go Go.Proofs
def sg_text_Print : Sig τ := ⟨[(false, T_api_Msg)], [T_string, T_bool]⟩
noncomputable def g_text_Print : S_api_Msg × Unit → Option (((List UInt8) × Bool × Unit) × Unit) := x_text_Print
noncomputable def e_text_Print : Ent U := ⟨9, sg_text_Print, g_text_Print⟩
def sg_text_Read : Sig τ := ⟨[(false, T_string)], [T_api_Msg, T_bool]⟩
noncomputable def g_text_Read : (List UInt8) × Unit → Option ((S_api_Msg × Bool × Unit) × Unit) := x_text_Read
noncomputable def e_text_Read : Ent U := ⟨13, sg_text_Read, g_text_Read⟩
def sg_ref07_dests : Sig τ := ⟨[(false, T_list_api_Dest), (false, T_list_api_Dest)], [T_bool]⟩
def ad_ref07_dests : Adv := ⟨26, [[0, 1], [0, 1, 10], [4], [0, 1, 5], [0, 1, 5, 14], [0, 1, 5], [0, 1, 5, 25], [4], [4]], [], []⟩
noncomputable def es_ref07_dests : List (Ent U) := []
noncomputable def h_ref07_dests (n : Nat) : (List S_api_Dest) × (List S_api_Dest) × Unit → Option ((Bool × Unit) × Unit) := runFn (U := U) Tryd.prog es_ref07_dests ad_ref07_dests n Tryd.f34 sg_ref07_dests
noncomputable def g_ref07_dests : (List S_api_Dest) × (List S_api_Dest) × Unit → Option ((Bool × Unit) × Unit) := h_ref07_dests fuel
noncomputable def e_ref07_dests : Ent U := ⟨34, sg_ref07_dests, g_ref07_dests⟩
noncomputable def fn_ref07_dests := lp (tab es_ref07_dests) ad_ref07_dests Tryd.f34 0 sg_ref07_dests
noncomputable def L_ref07_dests_0 (n m : Nat) (a0 : List S_api_Dest) (a1 : List S_api_Dest) (x5 : Int) : Option ((Bool × Unit) × Unit) :=
  fn_ref07_dests n [.r, .r, .l, .r, .l, .at m] [(0, .one (.sl 38 a0 .ro)), (1, .one (.sl 38 a1 .ro)), (5, .one (.int .i64 x5))]
def sg_ref07_subs : Sig τ := ⟨[(false, T_list_api_Sub), (false, T_list_api_Sub)], [T_bool]⟩
def ad_ref07_subs : Adv := ⟨26, [[0, 1], [0, 1, 10], [4], [0, 1, 5], [0, 1, 5, 14], [0, 1, 5], [0, 1, 5, 25], [4], [4]], [], []⟩
noncomputable def es_ref07_subs : List (Ent U) := []
noncomputable def h_ref07_subs (n : Nat) : (List S_api_Sub) × (List S_api_Sub) × Unit → Option ((Bool × Unit) × Unit) := runFn (U := U) Tryd.prog es_ref07_subs ad_ref07_subs n Tryd.f35 sg_ref07_subs
noncomputable def g_ref07_subs : (List S_api_Sub) × (List S_api_Sub) × Unit → Option ((Bool × Unit) × Unit) := h_ref07_subs fuel
noncomputable def e_ref07_subs : Ent U := ⟨35, sg_ref07_subs, g_ref07_subs⟩
noncomputable def fn_ref07_subs := lp (tab es_ref07_subs) ad_ref07_subs Tryd.f35 0 sg_ref07_subs
noncomputable def L_ref07_subs_0 (n m : Nat) (a0 : List S_api_Sub) (a1 : List S_api_Sub) (x5 : Int) : Option ((Bool × Unit) × Unit) :=
  fn_ref07_subs n [.r, .r, .l, .r, .l, .at m] [(0, .one (.sl 40 a0 .ro)), (1, .one (.sl 40 a1 .ro)), (5, .one (.int .i64 x5))]
def sg_ref07_Same : Sig τ := ⟨[(false, T_api_Msg), (false, T_api_Msg)], [T_bool]⟩
def ad_ref07_Same : Adv := ⟨174, [[2, 3], [2, 3, 79], [4], [2, 3, 161], [4], [4]], [], []⟩
noncomputable def es_ref07_Same : List (Ent U) := [e_ref07_dests, e_ref07_subs]
noncomputable def g_ref07_Same : S_api_Msg × S_api_Msg × Unit → Option ((Bool × Unit) × Unit) := runFn (U := U) Tryd.prog es_ref07_Same ad_ref07_Same 0 Tryd.f15 sg_ref07_Same
noncomputable def e_ref07_Same : Ent U := ⟨15, sg_ref07_Same, g_ref07_Same⟩
def sg_text_words : Sig τ := ⟨[], [T_15_string]⟩
def ad_text_words : Adv := ⟨2, [[0], [0]], [], [999999]⟩
noncomputable def es_text_words : List (Ent U) := []
noncomputable def g_text_words : Unit → Option ((S_15_string × Unit) × Unit) := runFn (U := U) Tryd.prog es_text_words ad_text_words 0 Tryd.f26 sg_text_words
noncomputable def e_text_words : Ent U := ⟨26, sg_text_words, g_text_words⟩
def sg_text_Word : Sig τ := ⟨[(false, T_int)], [T_string]⟩
def ad_text_Word : Adv := ⟨12, [[0], [0, 8], [2], [2]], [], [999999]⟩
noncomputable def es_text_Word : List (Ent U) := [e_text_words]
noncomputable def g_text_Word : Int × Unit → Option (((List UInt8) × Unit) × Unit) := runFn (U := U) Tryd.prog es_text_Word ad_text_Word 0 Tryd.f11 sg_text_Word
noncomputable def e_text_Word : Ent U := ⟨11, sg_text_Word, g_text_Word⟩
def sg_law29_awake : Sig τ := ⟨[], [T_bool]⟩
def ad_law29_awake : Adv := ⟨36, [[], [1], [1, 2, 3], [1, 2, 3, 4, 5], [0]], [], [999999]⟩
noncomputable def es_law29_awake : List (Ent U) := [e_text_Print, e_text_Read, e_ref07_Same, e_text_Word]
noncomputable def g_law29_awake : Unit → Option ((Bool × Unit) × Unit) := runFn (U := U) Tryd.prog es_law29_awake ad_law29_awake 0 Tryd.f8 sg_law29_awake
noncomputable def e_law29_awake : Ent U := ⟨8, sg_law29_awake, g_law29_awake⟩
def sg_ref07_Bare : Sig τ := ⟨[(false, T_api_Msg)], [T_bool]⟩
def ad_ref07_Bare : Adv := ⟨214, [[1], [1, 3], [1, 3, 10], [2], [1, 3, 10, 11], [1, 3], [1, 3, 10, 34], [1, 3], [1, 3, 10, 51], [1, 3], [1, 3, 10, 74], [1, 3], [1, 3, 10, 97], [1, 3], [1, 3, 10, 105], [1, 3, 10, 107], [1, 3], [1, 3, 10, 115], [1, 3], [1, 3, 10, 120], [1, 3], [1, 3, 10, 131], [1, 3], [1, 3, 10, 145], [1, 3], [1, 3, 10, 171], [1, 3], [1, 3, 10, 182], [1, 3], [1, 3, 202], [1, 3], [2]], [], []⟩
noncomputable def es_ref07_Bare : List (Ent U) := [e_ref07_Same]
noncomputable def g_ref07_Bare : S_api_Msg × Unit → Option ((Bool × Unit) × Unit) := runFn (U := U) Tryd.prog es_ref07_Bare ad_ref07_Bare 0 Tryd.f42 sg_ref07_Bare
noncomputable def e_ref07_Bare : Ent U := ⟨42, sg_ref07_Bare, g_ref07_Bare⟩
def sg_ref29_fine : Sig τ := ⟨[(false, T_list_int)], [T_bool]⟩
def ad_ref29_fine : Adv := ⟨22, [[0], [0, 3], [0, 3, 7], [0, 3], [0, 3, 21], [2], [2]], [], [999999]⟩
noncomputable def es_ref29_fine : List (Ent U) := []
noncomputable def h_ref29_fine (n : Nat) : (List Int) × Unit → Option ((Bool × Unit) × Unit) := runFn (U := U) Tryd.prog es_ref29_fine ad_ref29_fine n Tryd.f43 sg_ref29_fine
noncomputable def g_ref29_fine : (List Int) × Unit → Option ((Bool × Unit) × Unit) := h_ref29_fine fuel
noncomputable def e_ref29_fine : Ent U := ⟨43, sg_ref29_fine, g_ref29_fine⟩
noncomputable def fn_ref29_fine := lp (tab es_ref29_fine) ad_ref29_fine Tryd.f43 0 sg_ref29_fine
noncomputable def L_ref29_fine_0 (n m : Nat) (a0 : List Int) (x3 : Int) : Option ((Bool × Unit) × Unit) :=
  fn_ref29_fine n [.r, .l, .r, .l, .at m] [(0, .one (.sl 3 a0 .ro)), (3, .one (.int .i64 x3))]
def sg_ref29_Has : Sig τ := ⟨[(false, T_api_Msg)], [T_bool]⟩
def ad_ref29_Has : Adv := ⟨75, [[1], [1, 3], [1, 3, 4], [1, 3, 4, 41], [1, 3, 4], [1, 3, 4], [1, 3, 5], [1, 3, 5, 57], [1, 3, 5], [1, 3, 5], [2]], [44, 60], [999999]⟩
noncomputable def es_ref29_Has : List (Ent U) := [e_ref07_Bare, e_ref29_fine]
noncomputable def h_ref29_Has (n : Nat) : S_api_Msg × Unit → Option ((Bool × Unit) × Unit) := runFn (U := U) Tryd.prog es_ref29_Has ad_ref29_Has n Tryd.f21 sg_ref29_Has
noncomputable def g_ref29_Has : S_api_Msg × Unit → Option ((Bool × Unit) × Unit) := h_ref29_Has fuel
noncomputable def e_ref29_Has : Ent U := ⟨21, sg_ref29_Has, g_ref29_Has⟩
noncomputable def fn_ref29_Has := lp (tab es_ref29_Has) ad_ref29_Has Tryd.f21 0 sg_ref29_Has
noncomputable def L_ref29_Has_0 (n m : Nat) (a0 : S_api_Msg) (x3 : List Int) (x4 : Int) : Option ((Bool × Unit) × Unit) :=
  fn_ref29_Has n [.r, .r, .l, .r, .l, .at m] [(1, .box [.int .i64 a0.kind, .int .i64 a0.cmd, .int .i64 a0.ver, .str a0.auth, .int .i64 a0.family, .int .i64 a0.ae, .str a0.prefix_, .int .i64 a0.plen, .int .i64 a0.tag, .str a0.next, .int .i64 a0.metric, .str a0.id, .int .i64 a0.seq, .int .i64 a0.seq2, .int .i64 a0.interval, .int .i64 a0.flags, .int .i64 a0.hops, .int .i64 a0.nonce, .int .i64 a0.cost, .str a0.addr, .str a0.orig, .sl 38 a0.list .ro, .int .i64 a0.type_, .str a0.data, .sl 40 a0.subs .ro]), (3, .one (.sl 3 x3 .app)), (4, .one (.int .i64 x4))]
noncomputable def L_ref29_Has_1 (n m : Nat) (a0 : S_api_Msg) (x3 : List Int) (x5 : Int) : Option ((Bool × Unit) × Unit) :=
  fn_ref29_Has n [.r, .r, .r, .l, .r, .l, .at m] [(1, .box [.int .i64 a0.kind, .int .i64 a0.cmd, .int .i64 a0.ver, .str a0.auth, .int .i64 a0.family, .int .i64 a0.ae, .str a0.prefix_, .int .i64 a0.plen, .int .i64 a0.tag, .str a0.next, .int .i64 a0.metric, .str a0.id, .int .i64 a0.seq, .int .i64 a0.seq2, .int .i64 a0.interval, .int .i64 a0.flags, .int .i64 a0.hops, .int .i64 a0.nonce, .int .i64 a0.cost, .str a0.addr, .str a0.orig, .sl 38 a0.list .ro, .int .i64 a0.type_, .str a0.data, .sl 40 a0.subs .ro]), (3, .one (.sl 3 x3 .app)), (5, .one (.int .i64 x5))]
def sg_ref29_words : Sig τ := ⟨[], [T_list_string]⟩
def ad_ref29_words : Adv := ⟨2, [[], [0]], [], [999999]⟩
noncomputable def es_ref29_words : List (Ent U) := []
noncomputable def g_ref29_words : Unit → Option (((List (List UInt8)) × Unit) × Unit) := runFn (U := U) Tryd.prog es_ref29_words ad_ref29_words 0 Tryd.f27 sg_ref29_words
noncomputable def e_ref29_words : Ent U := ⟨27, sg_ref29_words, g_ref29_words⟩
def sg_ref29_Word : Sig τ := ⟨[(false, T_int)], [T_string]⟩
def ad_ref29_Word : Adv := ⟨13, [[0], [0, 8], [2], [2]], [], [999999]⟩
noncomputable def es_ref29_Word : List (Ent U) := [e_ref29_words]
noncomputable def g_ref29_Word : Int × Unit → Option (((List UInt8) × Unit) × Unit) := runFn (U := U) Tryd.prog es_ref29_Word ad_ref29_Word 0 Tryd.f12 sg_ref29_Word
noncomputable def e_ref29_Word : Ent U := ⟨12, sg_ref29_Word, g_ref29_Word⟩
def sg_ref29_number : Sig τ := ⟨[(false, T_int)], [T_string]⟩
def ad_ref29_number : Adv := ⟨17, [[0], [0, 3], [0, 3], [0, 3], [0, 3, 15], [2]], [], [999999]⟩
noncomputable def es_ref29_number : List (Ent U) := []
noncomputable def h_ref29_number (n : Nat) : Int × Unit → Option (((List UInt8) × Unit) × Unit) := runFn (U := U) Tryd.prog es_ref29_number ad_ref29_number n Tryd.f44 sg_ref29_number
noncomputable def g_ref29_number : Int × Unit → Option (((List UInt8) × Unit) × Unit) := h_ref29_number fuel
noncomputable def e_ref29_number : Ent U := ⟨44, sg_ref29_number, g_ref29_number⟩
noncomputable def fn_ref29_number := lp (tab es_ref29_number) ad_ref29_number Tryd.f44 0 sg_ref29_number
noncomputable def L_ref29_number_0 (n m : Nat) (x0 : Int) (x3 : List UInt8) : Option (((List UInt8) × Unit) × Unit) :=
  fn_ref29_number n [.r, .r, .l, .at m] [(0, .one (.int .i64 x0)), (3, .one (.str x3))]
noncomputable def L_ref29_number_1 (n m : Nat) (x0 : Int) (x3 : List UInt8) (x15 : Bool) : Option (((List UInt8) × Unit) × Unit) :=
  fn_ref29_number n [.r, .r, .l, .at m] [(0, .one (.int .i64 x0)), (3, .one (.str x3)), (15, .one (.bool x15))]
def sg_ref29_num : Sig τ := ⟨[(false, T_string), (false, T_int)], [T_string]⟩
def ad_ref29_num : Adv := ⟨13, [[0, 1], [0, 1, 6], [4], [4]], [], [999999]⟩
noncomputable def es_ref29_num : List (Ent U) := [e_ref29_number]
noncomputable def g_ref29_num : (List UInt8) × Int × Unit → Option (((List UInt8) × Unit) × Unit) := runFn (U := U) Tryd.prog es_ref29_num ad_ref29_num 0 Tryd.f22 sg_ref29_num
noncomputable def e_ref29_num : Ent U := ⟨22, sg_ref29_num, g_ref29_num⟩
def sg_ref29_hex : Sig τ := ⟨[(false, T_string)], [T_string]⟩
def ad_ref29_hex : Adv := ⟨35, [[0], [0, 3], [0, 3, 4], [0, 3, 4, 10], [0, 3, 4], [0, 3, 4, 5, 6], [0, 3, 4], [2]], [], [999999]⟩
noncomputable def es_ref29_hex : List (Ent U) := []
noncomputable def h_ref29_hex (n : Nat) : (List UInt8) × Unit → Option (((List UInt8) × Unit) × Unit) := runFn (U := U) Tryd.prog es_ref29_hex ad_ref29_hex n Tryd.f45 sg_ref29_hex
noncomputable def g_ref29_hex : (List UInt8) × Unit → Option (((List UInt8) × Unit) × Unit) := h_ref29_hex fuel
noncomputable def e_ref29_hex : Ent U := ⟨45, sg_ref29_hex, g_ref29_hex⟩
noncomputable def fn_ref29_hex := lp (tab es_ref29_hex) ad_ref29_hex Tryd.f45 0 sg_ref29_hex
noncomputable def L_ref29_hex_0 (n m : Nat) (a0 : List UInt8) (x3 : List UInt8) (x4 : Int) : Option (((List UInt8) × Unit) × Unit) :=
  fn_ref29_hex n [.r, .r, .l, .r, .l, .at m] [(0, .one (.str a0)), (3, .one (.str x3)), (4, .one (.int .i64 x4))]
def sg_ref29_text : Sig τ := ⟨[(false, T_string), (false, T_string)], [T_string]⟩
def ad_ref29_text : Adv := ⟨13, [[0, 1], [0, 1, 6], [4], [4]], [], [999999]⟩
noncomputable def es_ref29_text : List (Ent U) := [e_ref29_hex]
noncomputable def g_ref29_text : (List UInt8) × (List UInt8) × Unit → Option (((List UInt8) × Unit) × Unit) := runFn (U := U) Tryd.prog es_ref29_text ad_ref29_text 0 Tryd.f23 sg_ref29_text
noncomputable def e_ref29_text : Ent U := ⟨23, sg_ref29_text, g_ref29_text⟩
def sg_ref29_list : Sig τ := ⟨[(false, T_list_api_Dest)], [T_string]⟩
def ad_ref29_list : Adv := ⟨35, [[0], [0, 3], [0, 3, 4], [0, 3, 4, 8], [0, 3, 4], [0, 3, 4, 12], [0, 3, 4], [0, 3, 4], [3, 32], [2], [2]], [], [999999]⟩
noncomputable def es_ref29_list : List (Ent U) := [e_ref29_hex, e_ref29_number]
noncomputable def h_ref29_list (n : Nat) : (List S_api_Dest) × Unit → Option (((List UInt8) × Unit) × Unit) := runFn (U := U) Tryd.prog es_ref29_list ad_ref29_list n Tryd.f24 sg_ref29_list
noncomputable def g_ref29_list : (List S_api_Dest) × Unit → Option (((List UInt8) × Unit) × Unit) := h_ref29_list fuel
noncomputable def e_ref29_list : Ent U := ⟨24, sg_ref29_list, g_ref29_list⟩
noncomputable def fn_ref29_list := lp (tab es_ref29_list) ad_ref29_list Tryd.f24 0 sg_ref29_list
noncomputable def L_ref29_list_0 (n m : Nat) (a0 : List S_api_Dest) (x3 : List UInt8) (x4 : Int) : Option (((List UInt8) × Unit) × Unit) :=
  fn_ref29_list n [.r, .r, .l, .r, .l, .at m] [(0, .one (.sl 38 a0 .ro)), (3, .one (.str x3)), (4, .one (.int .i64 x4))]
def sg_ref29_subs : Sig τ := ⟨[(false, T_list_api_Sub)], [T_string]⟩
def ad_ref29_subs : Adv := ⟨35, [[0], [0, 3], [0, 3, 4], [0, 3, 4, 8], [0, 3, 4], [0, 3, 4, 12], [0, 3, 4], [0, 3, 4], [3, 32], [2], [2]], [], [999999]⟩
noncomputable def es_ref29_subs : List (Ent U) := [e_ref29_number, e_ref29_hex]
noncomputable def h_ref29_subs (n : Nat) : (List S_api_Sub) × Unit → Option (((List UInt8) × Unit) × Unit) := runFn (U := U) Tryd.prog es_ref29_subs ad_ref29_subs n Tryd.f25 sg_ref29_subs
noncomputable def g_ref29_subs : (List S_api_Sub) × Unit → Option (((List UInt8) × Unit) × Unit) := h_ref29_subs fuel
noncomputable def e_ref29_subs : Ent U := ⟨25, sg_ref29_subs, g_ref29_subs⟩
noncomputable def fn_ref29_subs := lp (tab es_ref29_subs) ad_ref29_subs Tryd.f25 0 sg_ref29_subs
noncomputable def L_ref29_subs_0 (n m : Nat) (a0 : List S_api_Sub) (x3 : List UInt8) (x4 : Int) : Option (((List UInt8) × Unit) × Unit) :=
  fn_ref29_subs n [.r, .r, .l, .r, .l, .at m] [(0, .one (.sl 40 a0 .ro)), (3, .one (.str x3)), (4, .one (.int .i64 x4))]
def sg_ref29_Print : Sig τ := ⟨[(false, T_api_Msg)], [T_string, T_bool]⟩
def ad_ref29_Print : Adv := ⟨109, [[1], [1, 7], [2, 3], [1, 4], [4], [2, 3]], [], [999999]⟩
noncomputable def es_ref29_Print : List (Ent U) := [e_ref29_Has, e_ref29_Word, e_ref29_num, e_ref29_text, e_ref29_list, e_ref29_subs]
noncomputable def g_ref29_Print : S_api_Msg × Unit → Option (((List UInt8) × Bool × Unit) × Unit) := runFn (U := U) Tryd.prog es_ref29_Print ad_ref29_Print 0 Tryd.f10 sg_ref29_Print
noncomputable def e_ref29_Print : Ent U := ⟨10, sg_ref29_Print, g_ref29_Print⟩
def sg_ref29_Read : Sig τ := ⟨[(false, T_string)], [T_api_Msg, T_bool]⟩
noncomputable def g_ref29_Read : (List UInt8) × Unit → Option ((S_api_Msg × Bool × Unit) × Unit) := x_ref29_Read
noncomputable def e_ref29_Read : Ent U := ⟨14, sg_ref29_Read, g_ref29_Read⟩
def sg_law29_TextReads : Sig τ := ⟨[(false, T_string)], [T_bool]⟩
def ad_law29_TextReads : Adv := ⟨32, [[0], [0, 9], [2], [0, 3, 4], [3, 4, 5, 6], [2]], [], [999999]⟩
noncomputable def es_law29_TextReads : List (Ent U) := [e_law29_awake, e_text_Read, e_ref29_Read, e_ref07_Same]
noncomputable def g_law29_TextReads : (List UInt8) × Unit → Option ((Bool × Unit) × Unit) := runFn (U := U) Tryd.prog es_law29_TextReads ad_law29_TextReads 0 Tryd.f4 sg_law29_TextReads
noncomputable def e_law29_TextReads : Ent U := ⟨4, sg_law29_TextReads, g_law29_TextReads⟩
def sg_text_kind : Sig τ := ⟨[(false, T_string)], [T_int]⟩
def ad_text_kind : Adv := ⟨15, [[0], [0, 5, 6], [0, 5, 6, 7], [0, 3, 4, 5, 6], [0, 3, 5, 6, 12], [2], [0, 5, 6], [2]], [], [999999]⟩
noncomputable def es_text_kind : List (Ent U) := [e_text_words]
noncomputable def h_text_kind (n : Nat) : (List UInt8) × Unit → Option ((Int × Unit) × Unit) := runFn (U := U) Tryd.prog es_text_kind ad_text_kind n Tryd.f29 sg_text_kind
noncomputable def g_text_kind : (List UInt8) × Unit → Option ((Int × Unit) × Unit) := h_text_kind fuel
noncomputable def e_text_kind : Ent U := ⟨29, sg_text_kind, g_text_kind⟩
noncomputable def fn_text_kind := lp (tab es_text_kind) ad_text_kind Tryd.f29 0 sg_text_kind
noncomputable def L_text_kind_0 (n m : Nat) (a0 : List UInt8) (r1 : (S_15_string × Unit) × Unit) (x6 : Int) : Option ((Int × Unit) × Unit) :=
  fn_text_kind n [.r, .l, .r, .l, .at m] [(0, .one (.str a0)), (5, .agg [.str r1.1.1.c0, .str r1.1.1.c1, .str r1.1.1.c2, .str r1.1.1.c3, .str r1.1.1.c4, .str r1.1.1.c5, .str r1.1.1.c6, .str r1.1.1.c7, .str r1.1.1.c8, .str r1.1.1.c9, .str r1.1.1.c10, .str r1.1.1.c11, .str r1.1.1.c12, .str r1.1.1.c13, .str r1.1.1.c14]), (6, .one (.int .i64 x6))]
def sg_text_digits : Sig τ := ⟨[(false, T_string)], [T_string]⟩
def ad_text_digits : Adv := ⟨29, [[0], [0, 3], [3, 11, 12, 13], [3, 11, 12, 13, 14], [3, 5, 11, 12, 13], [3, 11, 12, 13], [3, 11, 12, 13], [2]], [17], [999999]⟩
noncomputable def es_text_digits : List (Ent U) := []
noncomputable def h_text_digits (n : Nat) : (List UInt8) × Unit → Option (((List UInt8) × Unit) × Unit) := runFn (U := U) Tryd.prog es_text_digits ad_text_digits n Tryd.f40 sg_text_digits
noncomputable def g_text_digits : (List UInt8) × Unit → Option (((List UInt8) × Unit) × Unit) := h_text_digits fuel
noncomputable def e_text_digits : Ent U := ⟨40, sg_text_digits, g_text_digits⟩
noncomputable def fn_text_digits := lp (tab es_text_digits) ad_text_digits Tryd.f40 0 sg_text_digits
noncomputable def L_text_digits_0 (n m : Nat) (a0 : List UInt8) (x3 : List UInt8) (x13 : Int) : Option (((List UInt8) × Unit) × Unit) :=
  fn_text_digits n [.r, .r, .l, .r, .l, .at m] [(3, .one (.bs 5 x3 .app)), (11, .one (.bs 5 a0 .app)), (12, .one (.int .i64 (a0.length : Int))), (13, .one (.int .i64 x13))]
def sg_strings_IndexByte : Sig τ := ⟨[(false, T_string), (false, T_uint8)], [T_int]⟩
noncomputable def g_strings_IndexByte : (List UInt8) × Int × Unit → Option ((Int × Unit) × Unit) := x_strings_IndexByte
noncomputable def e_strings_IndexByte : Ent U := ⟨62, sg_strings_IndexByte, g_strings_IndexByte⟩
def sg_text_bytes : Sig τ := ⟨[(false, T_string)], [T_string, T_bool]⟩
def ad_text_bytes : Adv := ⟨49, [[0], [0, 11], [2, 3], [0, 4], [0, 4, 17, 18], [0, 4, 17, 18, 19], [0, 4, 5, 17, 18], [0, 4, 5, 6, 7, 17, 18], [0, 4, 5, 6, 7, 17, 18, 37], [2, 3], [0, 4, 17, 18], [0, 4, 17, 18], [2, 3]], [], [999999]⟩
noncomputable def es_text_bytes : List (Ent U) := [e_strings_IndexByte]
noncomputable def h_text_bytes (n : Nat) : (List UInt8) × Unit → Option (((List UInt8) × Bool × Unit) × Unit) := runFn (U := U) Tryd.prog es_text_bytes ad_text_bytes n Tryd.f49 sg_text_bytes
noncomputable def g_text_bytes : (List UInt8) × Unit → Option (((List UInt8) × Bool × Unit) × Unit) := h_text_bytes fuel
noncomputable def e_text_bytes : Ent U := ⟨49, sg_text_bytes, g_text_bytes⟩
noncomputable def fn_text_bytes := lp (tab es_text_bytes) ad_text_bytes Tryd.f49 0 sg_text_bytes
noncomputable def L_text_bytes_0 (n m : Nat) (a0 : List UInt8) (x15 : List UInt8) (x17 : Int) (x18 : Int) : Option (((List UInt8) × Bool × Unit) × Unit) :=
  fn_text_bytes n [.r, .r, .r, .l, .r, .l, .at m] [(0, .one (.str a0)), (4, .one (.sref 15)), (15, .bblk 5 x15 true), (17, .one (.int .i64 x17)), (18, .one (.int .i64 x18))]
def sg_strings_Cut : Sig τ := ⟨[(false, T_string), (false, T_string)], [T_string, T_string, T_bool]⟩
noncomputable def g_strings_Cut : (List UInt8) × (List UInt8) × Unit → Option (((List UInt8) × (List UInt8) × Bool × Unit) × Unit) := x_strings_Cut
noncomputable def e_strings_Cut : Ent U := ⟨28, sg_strings_Cut, g_strings_Cut⟩
def sg_text_number : Sig τ := ⟨[(false, T_string)], [T_int, T_bool]⟩
noncomputable def g_text_number : (List UInt8) × Unit → Option ((Int × Bool × Unit) × Unit) := x_text_number
noncomputable def e_text_number : Ent U := ⟨48, sg_text_number, g_text_number⟩
def sg_text_dest : Sig τ := ⟨[(false, T_string)], [T_api_Dest, T_bool]⟩
def ad_text_dest : Adv := ⟨37, [[0, 2], [2, 4, 5, 6], [2, 5, 6, 7, 8], [2, 6, 7, 8, 9, 10], [2, 3]], [], [999999]⟩
noncomputable def es_text_dest : List (Ent U) := [e_strings_Cut, e_text_bytes, e_text_number]
noncomputable def g_text_dest : (List UInt8) × Unit → Option ((S_api_Dest × Bool × Unit) × Unit) := runFn (U := U) Tryd.prog es_text_dest ad_text_dest 0 Tryd.f51 sg_text_dest
noncomputable def e_text_dest : Ent U := ⟨51, sg_text_dest, g_text_dest⟩
def sg_text_sub : Sig τ := ⟨[(false, T_string)], [T_api_Sub, T_bool]⟩
def ad_text_sub : Adv := ⟨37, [[0, 2], [2, 4, 5, 6], [2, 5, 6, 7, 8], [2, 6, 7, 8, 9, 10], [2, 3]], [], [999999]⟩
noncomputable def es_text_sub : List (Ent U) := [e_strings_Cut, e_text_number, e_text_bytes]
noncomputable def g_text_sub : (List UInt8) × Unit → Option ((S_api_Sub × Bool × Unit) × Unit) := runFn (U := U) Tryd.prog es_text_sub ad_text_sub 0 Tryd.f52 sg_text_sub
noncomputable def e_text_sub : Ent U := ⟨52, sg_text_sub, g_text_sub⟩
def sg_msg_strip : Sig τ := ⟨[(false, T_api_Msg)], [T_msg_plain]⟩
def ad_msg_strip : Adv := ⟨50, [[1, 2], [2]], [], []⟩
noncomputable def es_msg_strip : List (Ent U) := []
noncomputable def g_msg_strip : S_api_Msg × Unit → Option ((S_msg_plain × Unit) × Unit) := runFn (U := U) Tryd.prog es_msg_strip ad_msg_strip 0 Tryd.f36 sg_msg_strip
noncomputable def e_msg_strip : Ent U := ⟨36, sg_msg_strip, g_msg_strip⟩
def sg_msg_Bare : Sig τ := ⟨[(false, T_api_Msg)], [T_bool]⟩
def ad_msg_Bare : Adv := ⟨116, [[1], [1, 3], [1, 3, 4, 5], [1, 3, 4, 5, 13], [2], [1, 3, 4, 5, 13, 14], [1, 3, 4, 5, 13, 14], [1, 3, 4], [1, 3, 4, 25], [1, 3, 4], [1, 3, 4, 5], [1, 3, 4, 5, 13, 33], [1, 3, 4, 5], [1, 3, 4, 5, 13, 42], [1, 3, 4, 5], [1, 3, 4, 5, 13, 51], [1, 3, 4, 5], [1, 3, 4, 5, 13, 54], [1, 3, 4, 5, 13, 56], [1, 3, 4, 5], [1, 3, 4, 5, 13, 60], [1, 3, 4, 5], [1, 3, 4, 5, 13, 63], [1, 3, 4, 5], [1, 3, 4, 5, 13, 68], [1, 3, 4, 5], [1, 3, 4, 5, 13, 74], [1, 3, 4, 5], [1, 3, 4, 5, 13, 84], [1, 3, 4, 5], [1, 3, 4, 5, 13, 89], [1, 3, 4, 5], [1, 3, 4, 97], [1, 3, 4], [1, 3, 4, 5], [2]], [], []⟩
noncomputable def es_msg_Bare : List (Ent U) := [e_msg_strip]
noncomputable def g_msg_Bare : S_api_Msg × Unit → Option ((Bool × Unit) × Unit) := runFn (U := U) Tryd.prog es_msg_Bare ad_msg_Bare 0 Tryd.f16 sg_msg_Bare
noncomputable def e_msg_Bare : Ent U := ⟨16, sg_msg_Bare, g_msg_Bare⟩
def sg_ref29_value : Sig τ := ⟨[(false, T_string)], [T_int]⟩
def ad_ref29_value : Adv := ⟨24, [[0], [0, 3], [0, 3, 4], [0, 3, 4, 12], [0, 3, 4], [0, 3, 4], [2]], [], [999999]⟩
noncomputable def es_ref29_value : List (Ent U) := []
noncomputable def h_ref29_value (n : Nat) : (List UInt8) × Unit → Option ((Int × Unit) × Unit) := runFn (U := U) Tryd.prog es_ref29_value ad_ref29_value n Tryd.f53 sg_ref29_value
noncomputable def g_ref29_value : (List UInt8) × Unit → Option ((Int × Unit) × Unit) := h_ref29_value fuel
noncomputable def e_ref29_value : Ent U := ⟨53, sg_ref29_value, g_ref29_value⟩
noncomputable def fn_ref29_value := lp (tab es_ref29_value) ad_ref29_value Tryd.f53 0 sg_ref29_value
noncomputable def L_ref29_value_0 (n m : Nat) (a0 : List UInt8) (x3 : Int) (x4 : Int) : Option ((Int × Unit) × Unit) :=
  fn_ref29_value n [.r, .r, .l, .r, .l, .at m] [(0, .one (.str a0)), (3, .one (.int .i64 x3)), (4, .one (.int .i64 x4))]
def sg_ref29_bytes : Sig τ := ⟨[(false, T_string)], [T_string]⟩
def ad_ref29_bytes : Adv := ⟨47, [[0], [0, 3], [0, 3, 4], [0, 3, 4, 12], [0, 3, 4], [0, 3, 4, 5], [0, 3, 4, 5, 6], [0, 3, 4, 5, 6, 19], [0, 3, 4, 5, 6], [0, 3, 4, 5, 6, 7], [0, 3, 4, 5, 6, 7, 23], [0, 3, 4, 5, 6, 7], [0, 3, 4, 5, 6, 7, 31], [0, 3, 4, 5, 6, 7], [0, 3, 4, 5, 6, 37], [0, 3, 4, 5, 6], [0, 3, 4], [2]], [], [999999]⟩
noncomputable def es_ref29_bytes : List (Ent U) := []
noncomputable def h_ref29_bytes (n : Nat) : (List UInt8) × Unit → Option (((List UInt8) × Unit) × Unit) := runFn (U := U) Tryd.prog es_ref29_bytes ad_ref29_bytes n Tryd.f54 sg_ref29_bytes
noncomputable def g_ref29_bytes : (List UInt8) × Unit → Option (((List UInt8) × Unit) × Unit) := h_ref29_bytes fuel
noncomputable def e_ref29_bytes : Ent U := ⟨54, sg_ref29_bytes, g_ref29_bytes⟩
noncomputable def fn_ref29_bytes := lp (tab es_ref29_bytes) ad_ref29_bytes Tryd.f54 0 sg_ref29_bytes
noncomputable def L_ref29_bytes_0 (n m : Nat) (a0 : List UInt8) (x3 : List UInt8) (x4 : Int) : Option (((List UInt8) × Unit) × Unit) :=
  fn_ref29_bytes n [.r, .r, .l, .r, .l, .at m] [(0, .one (.str a0)), (3, .one (.str x3)), (4, .one (.int .i64 x4))]
noncomputable def L_ref29_bytes_1 (n m0 m : Nat) (a0 : List UInt8) (x3 : List UInt8) (x4 : Int) (x5 : Int) (x6 : Int) : Option (((List UInt8) × Unit) × Unit) :=
  fn_ref29_bytes n [.r, .r, .l, .r, .l, .inn m0, .r, .l, .l, .r, .l, .r, .l, .at m] [(0, .one (.str a0)), (3, .one (.str x3)), (4, .one (.int .i64 x4)), (5, .one (.int .i64 x5)), (6, .one (.int .i64 x6))]
noncomputable def L_ref29_bytes_2 (n m0 m1 m : Nat) (a0 : List UInt8) (x3 : List UInt8) (x4 : Int) (x6 : Int) (x5 : Int) (x7 : Int) : Option (((List UInt8) × Unit) × Unit) :=
  fn_ref29_bytes n [.r, .r, .l, .r, .l, .inn m0, .r, .l, .l, .r, .l, .r, .l, .inn m1, .r, .l, .l, .l, .r, .l, .at m] [(0, .one (.str a0)), (3, .one (.str x3)), (4, .one (.int .i64 x4)), (5, .one (.int .i64 x5)), (6, .one (.int .i64 x6)), (7, .one (.int .i64 x7))]
end Go.VI
