import Derived.Test.YtbjjekbhopgonaaGreatG4FTy
set_option linter.unusedVariables false
set_option linter.unusedSimpArgs false
set_option maxRecDepth 1000000
set_option maxHeartbeats 4000000
namespace Go.VI
open Go Go.Proofs
def sg_octet_Zero : Sig τ := ⟨[(false, T_string)], [T_bool]⟩
def ad_octet_Zero : Adv := ⟨15, [[0], [6, 7, 8], [6, 7, 8, 9], [4, 6, 7, 8], [6, 7, 8, 13], [2], [6, 7, 8], [2]], [], []⟩
noncomputable def es_octet_Zero : List (Ent U) := []
noncomputable def h_octet_Zero (n : Nat) : (List UInt8) × Unit → Option ((Bool × Unit) × Unit) := runFn (U := U) Tryz.prog es_octet_Zero ad_octet_Zero n Tryz.f134 sg_octet_Zero
noncomputable def g_octet_Zero : (List UInt8) × Unit → Option ((Bool × Unit) × Unit) := h_octet_Zero fuel
noncomputable def e_octet_Zero : Ent U := ⟨134, sg_octet_Zero, g_octet_Zero⟩
noncomputable def fn_octet_Zero := lp (tab es_octet_Zero) ad_octet_Zero Tryz.f134 0 sg_octet_Zero
noncomputable def L_octet_Zero_0 (n m : Nat) (a0 : List UInt8) (x8 : Int) : Option ((Bool × Unit) × Unit) :=
  fn_octet_Zero n [.r, .l, .r, .l, .at m] [(6, .one (.bs 5 a0 .app)), (7, .one (.int .i64 (a0.length : Int))), (8, .one (.int .i64 x8))]
def sg_rip_head : Sig τ := ⟨[(false, T_string)], [T_int, T_api_Errno]⟩
def ad_rip_head : Adv := ⟨49, [[0], [0, 4], [0, 4, 7], [2, 3], [0, 4, 11], [2, 3], [0, 4, 20], [2, 3], [4, 29], [2, 3], [4, 34], [2, 3], [4, 40], [2, 3], [44], [2, 3], [2, 3]], [], []⟩
noncomputable def es_rip_head : List (Ent U) := [e_octet_Zero]
noncomputable def g_rip_head : (List UInt8) × Unit → Option ((Int × Int × Unit) × Unit) := runFn (U := U) Tryz.prog es_rip_head ad_rip_head 0 Tryz.f137 sg_rip_head
noncomputable def e_rip_head : Ent U := ⟨137, sg_rip_head, g_rip_head⟩
def sg_internal_stringslite_HasPrefix : Sig τ := ⟨[(false, T_string), (false, T_string)], [T_bool]⟩
def ad_internal_stringslite_HasPrefix : Adv := ⟨18, [[0, 1], [4]], [], []⟩
noncomputable def es_internal_stringslite_HasPrefix : List (Ent U) := []
noncomputable def g_internal_stringslite_HasPrefix : (List UInt8) × (List UInt8) × Unit → Option ((Bool × Unit) × Unit) := runFn (U := U) Tryz.prog es_internal_stringslite_HasPrefix ad_internal_stringslite_HasPrefix 0 Tryz.f248 sg_internal_stringslite_HasPrefix
noncomputable def e_internal_stringslite_HasPrefix : Ent U := ⟨248, sg_internal_stringslite_HasPrefix, g_internal_stringslite_HasPrefix⟩
def sg_internal_stringslite_CutPrefix : Sig τ := ⟨[(false, T_string), (false, T_string)], [T_string, T_bool]⟩
def ad_internal_stringslite_CutPrefix : Adv := ⟨15, [[0, 1], [0, 1, 9], [4, 5], [4, 5]], [], []⟩
noncomputable def es_internal_stringslite_CutPrefix : List (Ent U) := [e_internal_stringslite_HasPrefix]
noncomputable def g_internal_stringslite_CutPrefix : (List UInt8) × (List UInt8) × Unit → Option (((List UInt8) × Bool × Unit) × Unit) := runFn (U := U) Tryz.prog es_internal_stringslite_CutPrefix ad_internal_stringslite_CutPrefix 0 Tryz.f246 sg_internal_stringslite_CutPrefix
noncomputable def e_internal_stringslite_CutPrefix : Ent U := ⟨246, sg_internal_stringslite_CutPrefix, g_internal_stringslite_CutPrefix⟩
def sg_strings_CutPrefix : Sig τ := ⟨[(false, T_string), (false, T_string)], [T_string, T_bool]⟩
def ad_strings_CutPrefix : Adv := ⟨11, [[0, 1], [4, 5]], [], []⟩
noncomputable def es_strings_CutPrefix : List (Ent U) := [e_internal_stringslite_CutPrefix]
noncomputable def g_strings_CutPrefix : (List UInt8) × (List UInt8) × Unit → Option (((List UInt8) × Bool × Unit) × Unit) := runFn (U := U) Tryz.prog es_strings_CutPrefix ad_strings_CutPrefix 0 Tryz.f203 sg_strings_CutPrefix
noncomputable def e_strings_CutPrefix : Ent U := ⟨203, sg_strings_CutPrefix, g_strings_CutPrefix⟩
def sg_auth_Get : Sig τ := ⟨[(false, T_string)], [T_string, T_bool]⟩
def ad_auth_Get : Adv := ⟨19, [[0], [4, 5], [4, 17], [2, 3], [2, 3]], [], []⟩
noncomputable def es_auth_Get : List (Ent U) := [e_strings_CutPrefix]
noncomputable def g_auth_Get : (List UInt8) × Unit → Option (((List UInt8) × Bool × Unit) × Unit) := runFn (U := U) Tryz.prog es_auth_Get ad_auth_Get 0 Tryz.f138 sg_auth_Get
noncomputable def e_auth_Get : Ent U := ⟨138, sg_auth_Get, g_auth_Get⟩
def sg_cursor_New : Sig τ := ⟨[(false, T_string)], [T_api_Cur]⟩
def ad_cursor_New : Adv := ⟨7, [[0, 2], [2]], [], []⟩
noncomputable def es_cursor_New : List (Ent U) := []
noncomputable def g_cursor_New : (List UInt8) × Unit → Option ((S_api_Cur × Unit) × Unit) := runFn (U := U) Tryz.prog es_cursor_New ad_cursor_New 0 Tryz.f129 sg_cursor_New
noncomputable def e_cursor_New : Ent U := ⟨129, sg_cursor_New, g_cursor_New⟩
def sg_cursor_step : Sig τ := ⟨[(false, T_api_Cur), (false, T_int)], [T_api_Cur, T_bool]⟩
def ad_cursor_step : Adv := ⟨29, [[1, 2, 4], [1, 2, 4, 20], [2, 4], [4, 5], [2, 4], [4, 5]], [], []⟩
noncomputable def es_cursor_step : List (Ent U) := []
noncomputable def g_cursor_step : S_api_Cur × Int × Unit → Option ((S_api_Cur × Bool × Unit) × Unit) := runFn (U := U) Tryz.prog es_cursor_step ad_cursor_step 0 Tryz.f233 sg_cursor_step
noncomputable def e_cursor_step : Ent U := ⟨233, sg_cursor_step, g_cursor_step⟩
def sg_cursor_Num : Sig τ := ⟨[(false, T_api_Cur), (false, T_int)], [T_int, T_api_Cur]⟩
def ad_cursor_Num : Adv := ⟨49, [[1, 2, 5], [1, 2, 5, 16], [2, 5], [4, 5], [2, 5, 6, 7], [2, 5, 6, 26], [4, 5], [2, 5, 6, 8], [5, 6, 8, 35, 36, 37], [5, 6, 8, 35, 36, 37, 38], [5, 6, 8, 10, 35, 36, 37], [5, 6, 8, 35, 36, 37], [5, 6, 8, 35, 36, 37], [4, 5]], [], []⟩
noncomputable def es_cursor_Num : List (Ent U) := [e_cursor_step]
noncomputable def h_cursor_Num (n : Nat) : S_api_Cur × Int × Unit → Option ((Int × S_api_Cur × Unit) × Unit) := runFn (U := U) Tryz.prog es_cursor_Num ad_cursor_Num n Tryz.f197 sg_cursor_Num
noncomputable def g_cursor_Num : S_api_Cur × Int × Unit → Option ((Int × S_api_Cur × Unit) × Unit) := h_cursor_Num fuel
noncomputable def e_cursor_Num : Ent U := ⟨197, sg_cursor_Num, g_cursor_Num⟩
noncomputable def fn_cursor_Num := lp (tab es_cursor_Num) ad_cursor_Num Tryz.f197 0 sg_cursor_Num
noncomputable def L_cursor_Num_0 (n m : Nat) (r1 : (S_api_Cur × Bool × Unit) × Unit) (x8 : Int) (x35 : List UInt8) (x36 : Int) (x37 : Int) : Option ((Int × S_api_Cur × Unit) × Unit) :=
  fn_cursor_Num n [.r, .r, .r, .r, .r, .l, .r, .l, .at m] [(5, .box [.str ([] : List UInt8), .int .i64 0, .int .i64 0, .bool false]), (6, .box [.str r1.1.1.s, .int .i64 r1.1.1.at_, .int .i64 r1.1.1.end_, .bool r1.1.1.bad]), (8, .one (.int .i64 x8)), (35, .one (.bs 5 x35 .app)), (36, .one (.int .i64 x36)), (37, .one (.int .i64 x37))]
def sg_entry_reader_num : Sig τ := ⟨[(true, T_entry_reader), (false, T_int)], [T_int]⟩
def ad_entry_reader_num : Adv := ⟨21, [[0, 1], [0, 5, 6], [5], [4]], [], []⟩
noncomputable def es_entry_reader_num : List (Ent U) := [e_cursor_Num]
noncomputable def g_entry_reader_num : S_entry_reader × Int × Unit → Option ((Int × Unit) × (S_entry_reader × Unit)) := runFn (U := U) Tryz.prog es_entry_reader_num ad_entry_reader_num 0 Tryz.f204 sg_entry_reader_num
noncomputable def e_entry_reader_num : Ent U := ⟨204, sg_entry_reader_num, g_entry_reader_num⟩
def sg_cursor_Text : Sig τ := ⟨[(false, T_api_Cur), (false, T_int)], [T_string, T_api_Cur]⟩
def ad_cursor_Text : Adv := ⟨25, [[1, 2, 5], [2, 5, 6, 7], [2, 5, 6, 15], [4, 5], [4, 5]], [], []⟩
noncomputable def es_cursor_Text : List (Ent U) := [e_cursor_step]
noncomputable def g_cursor_Text : S_api_Cur × Int × Unit → Option (((List UInt8) × S_api_Cur × Unit) × Unit) := runFn (U := U) Tryz.prog es_cursor_Text ad_cursor_Text 0 Tryz.f198 sg_cursor_Text
noncomputable def e_cursor_Text : Ent U := ⟨198, sg_cursor_Text, g_cursor_Text⟩
def sg_entry_reader_four : Sig τ := ⟨[(true, T_entry_reader)], [T_string]⟩
def ad_entry_reader_four : Adv := ⟨18, [[0], [0, 3, 4], [3], [2]], [], []⟩
noncomputable def es_entry_reader_four : List (Ent U) := [e_cursor_Text]
noncomputable def g_entry_reader_four : S_entry_reader × Unit → Option (((List UInt8) × Unit) × (S_entry_reader × Unit)) := runFn (U := U) Tryz.prog es_entry_reader_four ad_entry_reader_four 0 Tryz.f205 sg_entry_reader_four
noncomputable def e_entry_reader_four : Ent U := ⟨205, sg_entry_reader_four, g_entry_reader_four⟩
def sg_entry_Get : Sig τ := ⟨[(false, T_string)], [T_api_Entry, T_bool]⟩
def ad_entry_Get : Adv := ⟨33, [[0, 2], [0, 2, 8], [2, 3], [2, 4], [2, 4, 5], [2, 4, 5], [2, 4, 5], [2, 4, 5], [2, 4, 5], [2, 4, 5], [2, 5], [2, 3]], [], []⟩
noncomputable def es_entry_Get : List (Ent U) := [e_cursor_New, e_entry_reader_num, e_entry_reader_four]
noncomputable def g_entry_Get : (List UInt8) × Unit → Option ((S_api_Entry × Bool × Unit) × Unit) := runFn (U := U) Tryz.prog es_entry_Get ad_entry_Get 0 Tryz.f139 sg_entry_Get
noncomputable def e_entry_Get : Ent U := ⟨139, sg_entry_Get, g_entry_Get⟩
def sg_msg_strip : Sig τ := ⟨[(false, T_api_Msg)], [T_msg_plain]⟩
def ad_msg_strip : Adv := ⟨50, [[1, 2], [2]], [], []⟩
noncomputable def es_msg_strip : List (Ent U) := []
noncomputable def g_msg_strip : S_api_Msg × Unit → Option ((S_msg_plain × Unit) × Unit) := runFn (U := U) Tryz.prog es_msg_strip ad_msg_strip 0 Tryz.f184 sg_msg_strip
noncomputable def e_msg_strip : Ent U := ⟨184, sg_msg_strip, g_msg_strip⟩
def sg_msg_Bare : Sig τ := ⟨[(false, T_api_Msg)], [T_bool]⟩
def ad_msg_Bare : Adv := ⟨116, [[1], [1, 3], [1, 3, 4, 5], [1, 3, 4, 5, 13], [2], [1, 3, 4, 5, 13, 14], [1, 3, 4, 5, 13, 14], [1, 3, 4], [1, 3, 4, 25], [1, 3, 4], [1, 3, 4, 5], [1, 3, 4, 5, 13, 33], [1, 3, 4, 5], [1, 3, 4, 5, 13, 42], [1, 3, 4, 5], [1, 3, 4, 5, 13, 51], [1, 3, 4, 5], [1, 3, 4, 5, 13, 54], [1, 3, 4, 5, 13, 56], [1, 3, 4, 5], [1, 3, 4, 5, 13, 60], [1, 3, 4, 5], [1, 3, 4, 5, 13, 63], [1, 3, 4, 5], [1, 3, 4, 5, 13, 68], [1, 3, 4, 5], [1, 3, 4, 5, 13, 74], [1, 3, 4, 5], [1, 3, 4, 5, 13, 84], [1, 3, 4, 5], [1, 3, 4, 5, 13, 89], [1, 3, 4, 5], [1, 3, 4, 97], [1, 3, 4], [1, 3, 4, 5], [2]], [], []⟩
noncomputable def es_msg_Bare : List (Ent U) := [e_msg_strip]
noncomputable def g_msg_Bare : S_api_Msg × Unit → Option ((Bool × Unit) × Unit) := runFn (U := U) Tryz.prog es_msg_Bare ad_msg_Bare 0 Tryz.f113 sg_msg_Bare
noncomputable def e_msg_Bare : Ent U := ⟨113, sg_msg_Bare, g_msg_Bare⟩
def sg_rip_four : Sig τ := ⟨[(false, T_string)], [T_bool]⟩
def ad_rip_four : Adv := ⟨6, [[0], [2]], [], []⟩
noncomputable def es_rip_four : List (Ent U) := []
noncomputable def g_rip_four : (List UInt8) × Unit → Option ((Bool × Unit) × Unit) := runFn (U := U) Tryz.prog es_rip_four ad_rip_four 0 Tryz.f133 sg_rip_four
noncomputable def e_rip_four : Ent U := ⟨133, sg_rip_four, g_rip_four⟩
def sg_octet_Fits : Sig τ := ⟨[(false, T_int), (false, T_int)], [T_bool]⟩
def ad_octet_Fits : Adv := ⟨23, [[0, 1], [4]], [], []⟩
noncomputable def es_octet_Fits : List (Ent U) := []
noncomputable def g_octet_Fits : Int × Int × Unit → Option ((Bool × Unit) × Unit) := runFn (U := U) Tryz.prog es_octet_Fits ad_octet_Fits 0 Tryz.f135 sg_octet_Fits
noncomputable def e_octet_Fits : Ent U := ⟨135, sg_octet_Fits, g_octet_Fits⟩
def sg_bits_Keep : Sig τ := ⟨[(false, T_string), (false, T_int)], [T_string]⟩
def ad_bits_Keep : Adv := ⟨40, [[0, 1], [0, 1, 11], [4], [0, 1, 5], [0, 1, 5, 17], [4], [0, 1, 5, 6], [0, 1, 5, 6], [5], [4]], [], []⟩
noncomputable def es_bits_Keep : List (Ent U) := []
noncomputable def g_bits_Keep : (List UInt8) × Int × Unit → Option (((List UInt8) × Unit) × Unit) := runFn (U := U) Tryz.prog es_bits_Keep ad_bits_Keep 0 Tryz.f245 sg_bits_Keep
noncomputable def e_bits_Keep : Ent U := ⟨245, sg_bits_Keep, g_bits_Keep⟩
def sg_bits_Clean : Sig τ := ⟨[(false, T_string), (false, T_int)], [T_bool]⟩
def ad_bits_Clean : Adv := ⟨10, [[0, 1], [4]], [], []⟩
noncomputable def es_bits_Clean : List (Ent U) := [e_bits_Keep]
noncomputable def g_bits_Clean : (List UInt8) × Int × Unit → Option ((Bool × Unit) × Unit) := runFn (U := U) Tryz.prog es_bits_Clean ad_bits_Clean 0 Tryz.f202 sg_bits_Clean
noncomputable def e_bits_Clean : Ent U := ⟨202, sg_bits_Clean, g_bits_Clean⟩
def sg_prefix_Right : Sig τ := ⟨[(false, T_string), (false, T_int)], [T_bool]⟩
def ad_prefix_Right : Adv := ⟨29, [[0, 1], [0, 1, 5], [4]], [], []⟩
noncomputable def es_prefix_Right : List (Ent U) := [e_bits_Clean]
noncomputable def g_prefix_Right : (List UInt8) × Int × Unit → Option ((Bool × Unit) × Unit) := runFn (U := U) Tryz.prog es_prefix_Right ad_prefix_Right 0 Tryz.f136 sg_prefix_Right
noncomputable def e_prefix_Right : Ent U := ⟨136, sg_prefix_Right, g_prefix_Right⟩
def sg_rip_Right : Sig τ := ⟨[(false, T_api_Msg)], [T_bool]⟩
def ad_rip_Right : Adv := ⟨129, [[1], [1, 3], [2], [1, 24], [2], [1, 43], [2], [1, 58], [2], [1, 88], [2], [1, 102], [2], [2]], [], []⟩
noncomputable def es_rip_Right : List (Ent U) := [e_msg_Bare, e_rip_four, e_octet_Zero, e_octet_Fits, e_prefix_Right]
noncomputable def g_rip_Right : S_api_Msg × Unit → Option ((Bool × Unit) × Unit) := runFn (U := U) Tryz.prog es_rip_Right ad_rip_Right 0 Tryz.f70 sg_rip_Right
noncomputable def e_rip_Right : Ent U := ⟨70, sg_rip_Right, g_rip_Right⟩
def sg_math_bits_Len32 : Sig τ := ⟨[(false, T_uint32)], [T_int]⟩
def ad_math_bits_Len32 : Adv := ⟨19, [[0, 2], [0, 2, 4], [0], [0, 2], [0, 2, 8], [0, 2], [0, 2], [2]], [], []⟩
noncomputable def es_math_bits_Len32 : List (Ent U) := []
noncomputable def g_math_bits_Len32 : Int × Unit → Option ((Int × Unit) × Unit) := runFn (U := U) Tryz.prog es_math_bits_Len32 ad_math_bits_Len32 0 Tryz.f270 sg_math_bits_Len32
noncomputable def e_math_bits_Len32 : Ent U := ⟨270, sg_math_bits_Len32, g_math_bits_Len32⟩
def sg_math_bits_LeadingZeros32 : Sig τ := ⟨[(false, T_uint32)], [T_int]⟩
def ad_math_bits_LeadingZeros32 : Adv := ⟨6, [[0], [2]], [], []⟩
noncomputable def es_math_bits_LeadingZeros32 : List (Ent U) := [e_math_bits_Len32]
noncomputable def g_math_bits_LeadingZeros32 : Int × Unit → Option ((Int × Unit) × Unit) := runFn (U := U) Tryz.prog es_math_bits_LeadingZeros32 ad_math_bits_LeadingZeros32 0 Tryz.f247 sg_math_bits_LeadingZeros32
noncomputable def e_math_bits_LeadingZeros32 : Ent U := ⟨247, sg_math_bits_LeadingZeros32, g_math_bits_LeadingZeros32⟩
def sg_mask_Of : Sig τ := ⟨[(false, T_int)], [T_string, T_bool]⟩
def ad_mask_Of : Adv := ⟨28, [[0], [0, 10], [2, 3], [4], [2, 3]], [], []⟩
noncomputable def es_mask_Of : List (Ent U) := []
noncomputable def g_mask_Of : Int × Unit → Option (((List UInt8) × Bool × Unit) × Unit) := runFn (U := U) Tryz.prog es_mask_Of ad_mask_Of 0 Tryz.f207 sg_mask_Of
noncomputable def e_mask_Of : Ent U := ⟨207, sg_mask_Of, g_mask_Of⟩
def sg_mask_Plen : Sig τ := ⟨[(false, T_string)], [T_int, T_bool]⟩
def ad_mask_Plen : Adv := ⟨41, [[0], [0, 10], [2, 3], [0, 4], [0, 5], [0, 5, 6], [5, 39], [2, 3], [2, 3]], [], []⟩
noncomputable def es_mask_Plen : List (Ent U) := [e_math_bits_LeadingZeros32, e_mask_Of]
noncomputable def g_mask_Plen : (List UInt8) × Unit → Option ((Int × Bool × Unit) × Unit) := runFn (U := U) Tryz.prog es_mask_Plen ad_mask_Plen 0 Tryz.f206 sg_mask_Plen
noncomputable def e_mask_Plen : Ent U := ⟨206, sg_mask_Plen, g_mask_Plen⟩
def sg_rip_reader_route : Sig τ := ⟨[(true, T_rip_reader), (false, T_api_Entry)], [T_api_Msg, T_api_Errno]⟩
def ad_rip_reader_route : Adv := ⟨107, [[0, 3, 4], [0, 3, 4, 6], [3, 4, 6, 7, 8], [3, 4, 6, 7, 46], [4, 5], [3, 4, 6], [0, 3, 4, 6, 50], [4, 6, 69], [4, 5], [4, 5], [0, 3, 4, 6, 72], [4, 5], [3, 4, 6, 77], [3, 4, 6], [3, 4, 6, 95], [4, 5], [4, 6, 104], [4, 5], [4, 5]], [], []⟩
noncomputable def es_rip_reader_route : List (Ent U) := [e_octet_Zero, e_rip_Right, e_mask_Plen, e_prefix_Right]
noncomputable def g_rip_reader_route : S_rip_reader × S_api_Entry × Unit → Option ((S_api_Msg × Int × Unit) × (S_rip_reader × Unit)) := runFn (U := U) Tryz.prog es_rip_reader_route ad_rip_reader_route 0 Tryz.f140 sg_rip_reader_route
noncomputable def e_rip_reader_route : Ent U := ⟨140, sg_rip_reader_route, g_rip_reader_route⟩
def sg_rip_Parse : Sig τ := ⟨[(false, T_string)], [T_list_api_Msg, T_int, T_api_Errno]⟩
def ad_rip_Parse : Adv := ⟨94, [[0], [0, 5, 6], [0, 5, 6, 22], [2, 3, 4], [0, 7], [0, 7, 8], [0, 7, 8, 9, 10], [0, 7, 8, 9, 46], [0, 7, 8], [0, 7, 8, 54], [2, 3, 4], [0, 7, 8], [0, 7, 8, 11], [0, 7, 8, 11, 67], [0, 7, 8, 11], [0, 7, 8, 11, 12], [0, 7, 8, 11, 14, 15], [0, 7, 8, 11, 14, 15, 86], [2, 3, 4], [0, 7, 8, 11], [2, 3, 4]], [89], []⟩
noncomputable def es_rip_Parse : List (Ent U) := [e_rip_head, e_auth_Get, e_entry_Get, e_rip_reader_route]
noncomputable def h_rip_Parse (n : Nat) : (List UInt8) × Unit → Option (((List S_api_Msg) × Int × Int × Unit) × Unit) := runFn (U := U) Tryz.prog es_rip_Parse ad_rip_Parse n Tryz.f71 sg_rip_Parse
noncomputable def g_rip_Parse : (List UInt8) × Unit → Option (((List S_api_Msg) × Int × Int × Unit) × Unit) := h_rip_Parse fuel
noncomputable def e_rip_Parse : Ent U := ⟨71, sg_rip_Parse, g_rip_Parse⟩
noncomputable def fn_rip_Parse := lp (tab es_rip_Parse) ad_rip_Parse Tryz.f71 0 sg_rip_Parse
noncomputable def L_rip_Parse_0 (n m : Nat) (a0 : List UInt8) (x8 : Int) (x11 : List S_api_Msg) (x32_0 : Int) (x32_1 : Int) (x32_2 : List UInt8) (x32_3 : Bool) : Option (((List S_api_Msg) × Int × Int × Unit) × Unit) :=
  fn_rip_Parse n [.r, .r, .r, .r, .r, .r, .r, .r, .l, .l, .at m] [(0, .one (.str a0)), (7, .one (.ref 32 0)), (8, .one (.int .i64 x8)), (11, .one (.sl 29 x11 .app)), (32, .box [.int .i64 x32_0, .int .i64 x32_1, .str x32_2, .bool x32_3])]
def sg_ripng_head : Sig τ := ⟨[(false, T_string)], [T_int, T_api_Errno]⟩
def ad_ripng_head : Adv := ⟨37, [[0], [0, 4], [0, 4, 7], [2, 3], [0, 4, 10], [2, 3], [0, 4, 14], [2, 3], [0, 4, 23], [2, 3], [4, 27], [2, 3], [4, 32], [2, 3], [2, 3]], [], []⟩
noncomputable def es_ripng_head : List (Ent U) := [e_octet_Zero]
noncomputable def g_ripng_head : (List UInt8) × Unit → Option ((Int × Int × Unit) × Unit) := runFn (U := U) Tryz.prog es_ripng_head ad_ripng_head 0 Tryz.f146 sg_ripng_head
noncomputable def e_ripng_head : Ent U := ⟨146, sg_ripng_head, g_ripng_head⟩
def sg_octet_Zeros : Sig τ := ⟨[(false, T_int)], [T_string]⟩
def ad_octet_Zeros : Adv := ⟨7, [[0], [2]], [], []⟩
noncomputable def es_octet_Zeros : List (Ent U) := []
noncomputable def g_octet_Zeros : Int × Unit → Option (((List UInt8) × Unit) × Unit) := runFn (U := U) Tryz.prog es_octet_Zeros ad_octet_Zeros 0 Tryz.f144 sg_octet_Zeros
noncomputable def e_octet_Zeros : Ent U := ⟨144, sg_octet_Zeros, g_octet_Zeros⟩
def sg_rte_Get : Sig τ := ⟨[(false, T_string)], [T_api_Entry, T_bool]⟩
def ad_rte_Get : Adv := ⟨28, [[0, 2], [0, 2, 7], [2, 3], [0, 2, 4], [2, 3]], [], []⟩
noncomputable def es_rte_Get : List (Ent U) := []
noncomputable def g_rte_Get : (List UInt8) × Unit → Option ((S_api_Entry × Bool × Unit) × Unit) := runFn (U := U) Tryz.prog es_rte_Get ad_rte_Get 0 Tryz.f147 sg_rte_Get
noncomputable def e_rte_Get : Ent U := ⟨147, sg_rte_Get, g_rte_Get⟩
def sg_strings_HasPrefix : Sig τ := ⟨[(false, T_string), (false, T_string)], [T_bool]⟩
def ad_strings_HasPrefix : Adv := ⟨8, [[0, 1], [4]], [], []⟩
noncomputable def es_strings_HasPrefix : List (Ent U) := [e_internal_stringslite_HasPrefix]
noncomputable def g_strings_HasPrefix : (List UInt8) × (List UInt8) × Unit → Option ((Bool × Unit) × Unit) := runFn (U := U) Tryz.prog es_strings_HasPrefix ad_strings_HasPrefix 0 Tryz.f209 sg_strings_HasPrefix
noncomputable def e_strings_HasPrefix : Ent U := ⟨209, sg_strings_HasPrefix, g_strings_HasPrefix⟩
def sg_addr_Link : Sig τ := ⟨[(false, T_string)], [T_bool]⟩
def ad_addr_Link : Adv := ⟨10, [[0], [2]], [], []⟩
noncomputable def es_addr_Link : List (Ent U) := [e_strings_HasPrefix]
noncomputable def g_addr_Link : (List UInt8) × Unit → Option ((Bool × Unit) × Unit) := runFn (U := U) Tryz.prog es_addr_Link ad_addr_Link 0 Tryz.f145 sg_addr_Link
noncomputable def e_addr_Link : Ent U := ⟨145, sg_addr_Link, g_addr_Link⟩
def sg_ripng_reader_hop : Sig τ := ⟨[(true, T_ripng_reader), (false, T_api_Entry)], [T_api_Errno]⟩
def ad_ripng_reader_hop : Adv := ⟨23, [[0, 3], [0, 3, 10], [4], [0, 3], [0, 3, 17], [], [4]], [], []⟩
noncomputable def es_ripng_reader_hop : List (Ent U) := [e_octet_Zeros, e_addr_Link]
noncomputable def g_ripng_reader_hop : S_ripng_reader × S_api_Entry × Unit → Option ((Int × Unit) × (S_ripng_reader × Unit)) := runFn (U := U) Tryz.prog es_ripng_reader_hop ad_ripng_reader_hop 0 Tryz.f210 sg_ripng_reader_hop
noncomputable def e_ripng_reader_hop : Ent U := ⟨210, sg_ripng_reader_hop, g_ripng_reader_hop⟩
def sg_ripng_reader_entry : Sig τ := ⟨[(true, T_ripng_reader), (false, T_api_Entry)], [T_api_Errno]⟩
def ad_ripng_reader_entry : Adv := ⟨54, [[0, 3], [0, 3, 5], [4], [0, 3, 12], [4], [0, 3, 19], [4], [], [4]], [32], []⟩
noncomputable def es_ripng_reader_entry : List (Ent U) := [e_ripng_reader_hop, e_prefix_Right]
noncomputable def g_ripng_reader_entry : S_ripng_reader × S_api_Entry × Unit → Option ((Int × Unit) × (S_ripng_reader × Unit)) := runFn (U := U) Tryz.prog es_ripng_reader_entry ad_ripng_reader_entry 0 Tryz.f148 sg_ripng_reader_entry
noncomputable def e_ripng_reader_entry : Ent U := ⟨148, sg_ripng_reader_entry, g_ripng_reader_entry⟩
def sg_ripng_Parse : Sig τ := ⟨[(false, T_string)], [T_list_api_Msg, T_int, T_api_Errno]⟩
def ad_ripng_Parse : Adv := ⟨61, [[0], [0, 5, 6], [0, 5, 6, 18], [2, 3, 4], [0, 7], [0, 7, 8], [0, 7, 8, 30], [0, 7, 8], [0, 7, 8, 9], [0, 7, 8, 11], [0, 7, 8, 11, 46], [2, 3, 4], [0, 7, 54], [2, 3, 4], [2, 3, 4]], [], []⟩
noncomputable def es_ripng_Parse : List (Ent U) := [e_ripng_head, e_octet_Zeros, e_rte_Get, e_ripng_reader_entry]
noncomputable def h_ripng_Parse (n : Nat) : (List UInt8) × Unit → Option (((List S_api_Msg) × Int × Int × Unit) × Unit) := runFn (U := U) Tryz.prog es_ripng_Parse ad_ripng_Parse n Tryz.f74 sg_ripng_Parse
noncomputable def g_ripng_Parse : (List UInt8) × Unit → Option (((List S_api_Msg) × Int × Int × Unit) × Unit) := h_ripng_Parse fuel
noncomputable def e_ripng_Parse : Ent U := ⟨74, sg_ripng_Parse, g_ripng_Parse⟩
noncomputable def fn_ripng_Parse := lp (tab es_ripng_Parse) ad_ripng_Parse Tryz.f74 0 sg_ripng_Parse
noncomputable def L_ripng_Parse_0 (n m : Nat) (a0 : List UInt8) (x8 : Int) (x26_0 : Int) (x26_1 : List UInt8) (x26_2 : List S_api_Msg) : Option (((List S_api_Msg) × Int × Int × Unit) × Unit) :=
  fn_ripng_Parse n [.r, .r, .r, .l, .r, .l, .at m] [(0, .one (.str a0)), (7, .one (.ref 26 0)), (8, .one (.int .i64 x8)), (26, .box [.int .i64 x26_0, .str x26_1, .sl 29 x26_2 .app])]
def sg_cursor_Left : Sig τ := ⟨[(false, T_api_Cur)], [T_int]⟩
def ad_cursor_Left : Adv := ⟨10, [[1], [1, 4], [2], [2]], [], []⟩
noncomputable def es_cursor_Left : List (Ent U) := []
noncomputable def g_cursor_Left : S_api_Cur × Unit → Option ((Int × Unit) × Unit) := runFn (U := U) Tryz.prog es_cursor_Left ad_cursor_Left 0 Tryz.f130 sg_cursor_Left
noncomputable def e_cursor_Left : Ent U := ⟨130, sg_cursor_Left, g_cursor_Left⟩
def sg_ext_Get : Sig τ := ⟨[(false, T_string)], [T_list_api_Sub, T_int, T_api_Errno]⟩
def ad_ext_Get : Adv := ⟨44, [[0], [0, 5], [5, 6], [5, 6, 14], [5, 6, 7], [5, 6, 7, 8], [5, 6, 7, 8], [5, 6, 7, 8], [5, 6, 7, 8, 9], [5, 6, 7, 8], [5, 6, 7, 8, 36], [2, 3, 4], [5, 6], [5, 42], [5, 6], [2, 3, 4]], [38], []⟩
noncomputable def es_ext_Get : List (Ent U) := [e_cursor_New, e_cursor_Left, e_cursor_Num, e_cursor_Text]
noncomputable def h_ext_Get (n : Nat) : (List UInt8) × Unit → Option (((List S_api_Sub) × Int × Int × Unit) × Unit) := runFn (U := U) Tryz.prog es_ext_Get ad_ext_Get n Tryz.f250 sg_ext_Get
noncomputable def g_ext_Get : (List UInt8) × Unit → Option (((List S_api_Sub) × Int × Int × Unit) × Unit) := h_ext_Get fuel
noncomputable def e_ext_Get : Ent U := ⟨250, sg_ext_Get, g_ext_Get⟩
noncomputable def fn_ext_Get := lp (tab es_ext_Get) ad_ext_Get Tryz.f250 0 sg_ext_Get
noncomputable def L_ext_Get_0 (n m : Nat) (x5 : List S_api_Sub) (x6_0 : List UInt8) (x6_1 : Int) (x6_2 : Int) (x6_3 : Bool) : Option (((List S_api_Sub) × Int × Int × Unit) × Unit) :=
  fn_ext_Get n [.r, .r, .l, .r, .l, .at m] [(5, .one (.sl 89 x5 .app)), (6, .box [.str x6_0, .int .i64 x6_1, .int .i64 x6_2, .bool x6_3])]
def sg_rreq_Get : Sig τ := ⟨[(false, T_string)], [T_api_Msg, T_int, T_api_Errno]⟩
def ad_rreq_Get : Adv := ⟨84, [[0, 2], [0, 2, 13], [2, 3, 4], [0, 2, 23], [2, 3, 4], [0, 2, 5, 6, 7], [0, 2, 5, 6, 7, 33], [2, 3, 4], [0, 2, 8], [2, 8, 10], [2, 8, 10], [2, 8, 10], [2, 8, 10], [2, 8, 10], [2, 8], [2, 3, 4]], [], []⟩
noncomputable def es_rreq_Get : List (Ent U) := [e_ext_Get, e_cursor_New, e_cursor_Text, e_cursor_Num]
noncomputable def g_rreq_Get : (List UInt8) × Unit → Option ((S_api_Msg × Int × Int × Unit) × Unit) := runFn (U := U) Tryz.prog es_rreq_Get ad_rreq_Get 0 Tryz.f213 sg_rreq_Get
noncomputable def e_rreq_Get : Ent U := ⟨213, sg_rreq_Get, g_rreq_Get⟩
def sg_rerr_Get : Sig τ := ⟨[(false, T_string)], [T_api_Msg, T_int, T_api_Errno]⟩
def ad_rerr_Get : Adv := ⟨93, [[0, 2], [0, 2, 12], [2, 3, 4], [0, 2, 19], [2, 3, 4], [0, 2, 28], [2, 3, 4], [0, 2, 5], [0, 2, 5, 7], [0, 2, 5, 7, 46, 47], [0, 2, 5, 7, 46, 47, 48], [0, 2, 5, 7, 8, 46, 47], [0, 2, 5, 7, 8, 46, 47], [0, 2, 5, 7, 8, 46, 47], [0, 2, 5, 7, 46, 47], [0, 2, 5, 7, 46, 47], [0, 2, 5, 7, 69], [2, 3, 4], [2, 5, 7, 9, 10, 11], [2, 5, 7, 9, 10, 11, 83], [2, 3, 4], [2, 5], [2, 3, 4]], [62], []⟩
noncomputable def es_rerr_Get : List (Ent U) := [e_cursor_New, e_cursor_Text, e_cursor_Num, e_ext_Get]
noncomputable def h_rerr_Get (n : Nat) : (List UInt8) × Unit → Option ((S_api_Msg × Int × Int × Unit) × Unit) := runFn (U := U) Tryz.prog es_rerr_Get ad_rerr_Get n Tryz.f214 sg_rerr_Get
noncomputable def g_rerr_Get : (List UInt8) × Unit → Option ((S_api_Msg × Int × Int × Unit) × Unit) := h_rerr_Get fuel
noncomputable def e_rerr_Get : Ent U := ⟨214, sg_rerr_Get, g_rerr_Get⟩
noncomputable def fn_rerr_Get := lp (tab es_rerr_Get) ad_rerr_Get Tryz.f214 0 sg_rerr_Get
noncomputable def L_rerr_Get_0 (n m : Nat) (a0 : List UInt8) (x5_15 : Int) (x5_21 : List S_api_Dest) (x7_0 : List UInt8) (x7_1 : Int) (x7_2 : Int) (x7_3 : Bool) (x46 : Int) (x47 : Int) : Option ((S_api_Msg × Int × Int × Unit) × Unit) :=
  fn_rerr_Get n [.r, .r, .r, .r, .l, .r, .l, .at m] [(0, .one (.str a0)), (2, .box [.int .i64 0, .int .i64 0, .int .i64 0, .str ([] : List UInt8), .int .i64 0, .int .i64 0, .str ([] : List UInt8), .int .i64 0, .int .i64 0, .str ([] : List UInt8), .int .i64 0, .str ([] : List UInt8), .int .i64 0, .int .i64 0, .int .i64 0, .int .i64 0, .int .i64 0, .int .i64 0, .int .i64 0, .str ([] : List UInt8), .str ([] : List UInt8), .sl 87 [] .app, .int .i64 0, .str ([] : List UInt8), .sl 89 [] .app]), (5, .box [.int .i64 5, .int .i64 0, .int .i64 0, .str ([] : List UInt8), .int .i64 0, .int .i64 0, .str ([] : List UInt8), .int .i64 0, .int .i64 0, .str ([] : List UInt8), .int .i64 0, .str ([] : List UInt8), .int .i64 0, .int .i64 0, .int .i64 0, .int .i64 x5_15, .int .i64 0, .int .i64 0, .int .i64 0, .str ([] : List UInt8), .str ([] : List UInt8), .sl 87 x5_21 .app, .int .i64 0, .str ([] : List UInt8), .sl 89 [] .app]), (7, .box [.str x7_0, .int .i64 x7_1, .int .i64 x7_2, .bool x7_3]), (46, .one (.int .i64 x46)), (47, .one (.int .i64 x47))]
def sg_rrep_ack : Sig τ := ⟨[(false, T_string)], [T_api_Msg, T_int, T_api_Errno]⟩
def ad_rrep_ack : Adv := ⟨33, [[0, 2], [0, 2, 10], [2, 3, 4], [0, 2, 16], [2, 3, 4], [2, 5, 6, 7], [2, 5, 6, 7, 26], [2, 3, 4], [2, 3, 4]], [], []⟩
noncomputable def es_rrep_ack : List (Ent U) := [e_ext_Get]
noncomputable def g_rrep_ack : (List UInt8) × Unit → Option ((S_api_Msg × Int × Int × Unit) × Unit) := runFn (U := U) Tryz.prog es_rrep_ack ad_rrep_ack 0 Tryz.f251 sg_rrep_ack
noncomputable def e_rrep_ack : Ent U := ⟨251, sg_rrep_ack, g_rrep_ack⟩
def sg_rrep_Get : Sig τ := ⟨[(false, T_string)], [T_api_Msg, T_int, T_api_Errno]⟩
def ad_rrep_Get : Adv := ⟨94, [[0, 2], [0, 2, 17], [2, 3, 4], [0, 2, 25], [2, 3, 4], [0, 2, 36], [2, 3, 4], [0, 2, 5, 6, 7], [0, 2, 5, 6, 7, 46], [2, 3, 4], [0, 2, 8], [2, 8, 10], [2, 8, 10], [2, 8, 10], [2, 8, 10], [2, 8], [2, 3, 4]], [], []⟩
noncomputable def es_rrep_Get : List (Ent U) := [e_rrep_ack, e_ext_Get, e_cursor_New, e_cursor_Text, e_cursor_Num]
noncomputable def g_rrep_Get : (List UInt8) × Unit → Option ((S_api_Msg × Int × Int × Unit) × Unit) := runFn (U := U) Tryz.prog es_rrep_Get ad_rrep_Get 0 Tryz.f215 sg_rrep_Get
noncomputable def e_rrep_Get : Ent U := ⟨215, sg_rrep_Get, g_rrep_Get⟩
def sg_aodv_get : Sig τ := ⟨[(false, T_string)], [T_api_Msg, T_int, T_api_Errno]⟩
def ad_aodv_get : Adv := ⟨26, [[0, 2], [0, 2, 6], [0, 2, 6, 7], [2, 3, 4], [0, 2, 14], [2, 3, 4], [2, 3, 4]], [], []⟩
noncomputable def es_aodv_get : List (Ent U) := [e_rreq_Get, e_rerr_Get, e_rrep_Get]
noncomputable def g_aodv_get : (List UInt8) × Unit → Option ((S_api_Msg × Int × Int × Unit) × Unit) := runFn (U := U) Tryz.prog es_aodv_get ad_aodv_get 0 Tryz.f153 sg_aodv_get
noncomputable def e_aodv_get : Ent U := ⟨153, sg_aodv_get, g_aodv_get⟩
def sg_aodv_Parse : Sig τ := ⟨[(false, T_string)], [T_list_api_Msg, T_int, T_api_Errno]⟩
def ad_aodv_Parse : Adv := ⟨37, [[0], [0, 8], [2, 3, 4], [0, 12], [2, 3, 4], [0, 16], [2, 3, 4], [5, 6, 7], [5, 6, 7, 32], [2, 3, 4], [2, 3, 4]], [], []⟩
noncomputable def es_aodv_Parse : List (Ent U) := [e_aodv_get]
noncomputable def g_aodv_Parse : (List UInt8) × Unit → Option (((List S_api_Msg) × Int × Int × Unit) × Unit) := runFn (U := U) Tryz.prog es_aodv_Parse ad_aodv_Parse 0 Tryz.f77 sg_aodv_Parse
noncomputable def e_aodv_Parse : Ent U := ⟨77, sg_aodv_Parse, g_aodv_Parse⟩
def sg_frame_size : Sig τ := ⟨[(false, T_string)], [T_int]⟩
def ad_frame_size : Adv := ⟨11, [[0], [2]], [], []⟩
noncomputable def es_frame_size : List (Ent U) := []
noncomputable def g_frame_size : (List UInt8) × Unit → Option ((Int × Unit) × Unit) := runFn (U := U) Tryz.prog es_frame_size ad_frame_size 0 Tryz.f128 sg_frame_size
noncomputable def e_frame_size : Ent U := ⟨128, sg_frame_size, g_frame_size⟩
def sg_frame_Body : Sig τ := ⟨[(false, T_string)], [T_string, T_int, T_api_Errno]⟩
def ad_frame_Body : Adv := ⟨35, [[0], [0, 5], [0, 5, 8], [2, 3, 4], [0, 5, 11], [2, 3, 4], [0, 5, 15], [2, 3, 4], [0, 5, 19], [2, 3, 4], [0, 5, 23], [2, 3, 4], [2, 3, 4]], [], []⟩
noncomputable def es_frame_Body : List (Ent U) := [e_frame_size]
noncomputable def g_frame_Body : (List UInt8) × Unit → Option (((List UInt8) × Int × Int × Unit) × Unit) := runFn (U := U) Tryz.prog es_frame_Body ad_frame_Body 0 Tryz.f65 sg_frame_Body
noncomputable def e_frame_Body : Ent U := ⟨65, sg_frame_Body, g_frame_Body⟩
def sg_frame_next : Sig τ := ⟨[(false, T_api_Cur)], [T_api_Tlv, T_api_Cur]⟩
def ad_frame_next : Adv := ⟨34, [[1, 2, 3], [1, 2, 3, 4], [1, 2, 3, 4], [1, 2, 3, 4, 17], [2, 3], [1, 2, 3, 4, 5], [1, 2, 3, 4], [2, 3]], [], []⟩
noncomputable def es_frame_next : List (Ent U) := [e_cursor_Num, e_cursor_Text]
noncomputable def g_frame_next : S_api_Cur × Unit → Option ((S_api_Tlv × S_api_Cur × Unit) × Unit) := runFn (U := U) Tryz.prog es_frame_next ad_frame_next 0 Tryz.f131 sg_frame_next
noncomputable def e_frame_next : Ent U := ⟨131, sg_frame_next, g_frame_next⟩
def sg_frame_Split : Sig τ := ⟨[(false, T_string), (false, T_int)], [T_list_api_Tlv, T_int, T_api_Errno]⟩
def ad_frame_Split : Adv := ⟨37, [[0, 1], [0, 1, 7], [1, 7, 8], [1, 7, 8, 15], [1, 7, 8, 9, 10], [1, 7, 8, 9, 10], [1, 7, 8, 9, 10, 27], [4, 5, 6], [1, 7, 8], [1, 7, 35], [1, 7, 8], [4, 5, 6]], [30], []⟩
noncomputable def es_frame_Split : List (Ent U) := [e_cursor_New, e_cursor_Left, e_frame_next]
noncomputable def h_frame_Split (n : Nat) : (List UInt8) × Int × Unit → Option (((List S_api_Tlv) × Int × Int × Unit) × Unit) := runFn (U := U) Tryz.prog es_frame_Split ad_frame_Split n Tryz.f66 sg_frame_Split
noncomputable def g_frame_Split : (List UInt8) × Int × Unit → Option (((List S_api_Tlv) × Int × Int × Unit) × Unit) := h_frame_Split fuel
noncomputable def e_frame_Split : Ent U := ⟨66, sg_frame_Split, g_frame_Split⟩
noncomputable def fn_frame_Split := lp (tab es_frame_Split) ad_frame_Split Tryz.f66 0 sg_frame_Split
noncomputable def L_frame_Split_0 (n m : Nat) (a1 : Int) (x7 : List S_api_Tlv) (x8_0 : List UInt8) (x8_1 : Int) (x8_2 : Int) (x8_3 : Bool) : Option (((List S_api_Tlv) × Int × Int × Unit) × Unit) :=
  fn_frame_Split n [.r, .r, .l, .r, .l, .at m] [(1, .one (.int .i64 a1)), (7, .one (.sl 122 x7 .app)), (8, .box [.str x8_0, .int .i64 x8_1, .int .i64 x8_2, .bool x8_3])]
def sg_frame_Trailer : Sig τ := ⟨[(false, T_string)], [T_string]⟩
def ad_frame_Trailer : Adv := ⟨8, [[0], [2]], [], []⟩
noncomputable def es_frame_Trailer : List (Ent U) := [e_frame_size]
noncomputable def g_frame_Trailer : (List UInt8) × Unit → Option (((List UInt8) × Unit) × Unit) := runFn (U := U) Tryz.prog es_frame_Trailer ad_frame_Trailer 0 Tryz.f67 sg_frame_Trailer
noncomputable def e_frame_Trailer : Ent U := ⟨67, sg_frame_Trailer, g_frame_Trailer⟩
def sg_msg_Bytes : Sig τ := ⟨[(false, T_list_api_Sub)], [T_int]⟩
def ad_msg_Bytes : Adv := ⟨20, [[0], [0, 3], [3, 6, 7, 8], [3, 6, 7, 8, 9], [3, 5, 6, 7, 8], [3, 6, 7, 8], [3, 6, 7, 8], [2]], [], []⟩
noncomputable def es_msg_Bytes : List (Ent U) := []
noncomputable def h_msg_Bytes (n : Nat) : (List S_api_Sub) × Unit → Option ((Int × Unit) × Unit) := runFn (U := U) Tryz.prog es_msg_Bytes ad_msg_Bytes n Tryz.f226 sg_msg_Bytes
noncomputable def g_msg_Bytes : (List S_api_Sub) × Unit → Option ((Int × Unit) × Unit) := h_msg_Bytes fuel
noncomputable def e_msg_Bytes : Ent U := ⟨226, sg_msg_Bytes, g_msg_Bytes⟩
noncomputable def fn_msg_Bytes := lp (tab es_msg_Bytes) ad_msg_Bytes Tryz.f226 0 sg_msg_Bytes
noncomputable def L_msg_Bytes_0 (n m : Nat) (a0 : List S_api_Sub) (x3 : Int) (x8 : Int) : Option ((Int × Unit) × Unit) :=
  fn_msg_Bytes n [.r, .r, .l, .r, .l, .at m] [(3, .one (.int .i64 x3)), (6, .one (.sl 89 a0 .ro)), (7, .one (.int .i64 (a0.length : Int))), (8, .one (.int .i64 x8))]
def sg_sub_Get : Sig τ := ⟨[(false, T_string)], [T_list_api_Sub, T_bool, T_api_Errno]⟩
def ad_sub_Get : Adv := ⟨49, [[0], [5, 7], [5, 7, 19], [2, 3, 4], [5, 8], [5, 8, 9], [8, 9, 21, 22, 23], [8, 9, 21, 22, 23, 24], [8, 9, 11, 21, 22, 23], [8, 9, 11, 21, 22, 23, 27], [8, 9, 21, 22, 23], [8, 9, 11, 21, 22, 23, 31], [8, 9, 21, 22, 23], [8, 9, 21, 22, 23], [8, 9, 46], [2, 3, 4], [2, 3, 4]], [35], []⟩
noncomputable def es_sub_Get : List (Ent U) := [e_frame_Split, e_msg_Bytes]
noncomputable def h_sub_Get (n : Nat) : (List UInt8) × Unit → Option (((List S_api_Sub) × Bool × Int × Unit) × Unit) := runFn (U := U) Tryz.prog es_sub_Get ad_sub_Get n Tryz.f239 sg_sub_Get
noncomputable def g_sub_Get : (List UInt8) × Unit → Option (((List S_api_Sub) × Bool × Int × Unit) × Unit) := h_sub_Get fuel
noncomputable def e_sub_Get : Ent U := ⟨239, sg_sub_Get, g_sub_Get⟩
noncomputable def fn_sub_Get := lp (tab es_sub_Get) ad_sub_Get Tryz.f239 0 sg_sub_Get
noncomputable def L_sub_Get_0 (n m : Nat) (r1 : ((List S_api_Tlv) × Int × Int × Unit) × Unit) (x8 : List S_api_Sub) (x9 : Bool) (x23 : Int) : Option (((List S_api_Sub) × Bool × Int × Unit) × Unit) :=
  fn_sub_Get n [.r, .r, .r, .r, .r, .l, .r, .l, .at m] [(8, .one (.sl 89 x8 .app)), (9, .one (.bool x9)), (21, .one (.sl 122 r1.1.1 .ro)), (22, .one (.int .i64 (r1.1.1.length : Int))), (23, .one (.int .i64 x23))]
def sg_ctx_counts : Sig τ := ⟨[(false, T_string), (false, T_int)], [T_bool, T_api_Errno]⟩
def ad_ctx_counts : Adv := ⟨23, [[0, 1], [0, 1, 12], [4, 5], [7, 8], [4, 5]], [], []⟩
noncomputable def es_ctx_counts : List (Ent U) := [e_sub_Get]
noncomputable def g_ctx_counts : (List UInt8) × Int × Unit → Option ((Bool × Int × Unit) × Unit) := runFn (U := U) Tryz.prog es_ctx_counts ad_ctx_counts 0 Tryz.f263 sg_ctx_counts
noncomputable def e_ctx_counts : Ent U := ⟨263, sg_ctx_counts, g_ctx_counts⟩
def sg_ctx_stepper_id : Sig τ := ⟨[(true, T_ctx_stepper), (false, T_string)], [T_api_Errno]⟩
def ad_ctx_stepper_id : Adv := ⟨20, [[0, 1], [0, 1, 5, 6], [0, 1, 6, 12], [6], [4]], [], []⟩
noncomputable def es_ctx_stepper_id : List (Ent U) := [e_ctx_counts]
noncomputable def g_ctx_stepper_id : S_ctx_stepper × (List UInt8) × Unit → Option ((Int × Unit) × (S_ctx_stepper × Unit)) := runFn (U := U) Tryz.prog es_ctx_stepper_id ad_ctx_stepper_id 0 Tryz.f234 sg_ctx_stepper_id
noncomputable def e_ctx_stepper_id : Ent U := ⟨234, sg_ctx_stepper_id, g_ctx_stepper_id⟩
def sg_addr_Long : Sig τ := ⟨[(false, T_string)], [T_string, T_bool]⟩
def ad_addr_Long : Adv := ⟨9, [[0], [0, 6], [2, 3], [2, 3]], [], []⟩
noncomputable def es_addr_Long : List (Ent U) := []
noncomputable def g_addr_Long : (List UInt8) × Unit → Option (((List UInt8) × Bool × Unit) × Unit) := runFn (U := U) Tryz.prog es_addr_Long ad_addr_Long 0 Tryz.f264 sg_addr_Long
noncomputable def e_addr_Long : Ent U := ⟨264, sg_addr_Long, g_addr_Long⟩
def sg_ctx_Family : Sig τ := ⟨[(false, T_int)], [T_int]⟩
def ad_ctx_Family : Adv := ⟨9, [[0], [3], [3, 4], [2], [3, 6], [6], [2], [2]], [], []⟩
noncomputable def es_ctx_Family : List (Ent U) := []
noncomputable def g_ctx_Family : Int × Unit → Option ((Int × Unit) × Unit) := runFn (U := U) Tryz.prog es_ctx_Family ad_ctx_Family 0 Tryz.f116 sg_ctx_Family
noncomputable def e_ctx_Family : Ent U := ⟨116, sg_ctx_Family, g_ctx_Family⟩
def sg_ctx_stepper_hop : Sig τ := ⟨[(true, T_ctx_stepper), (false, T_string)], [T_api_Errno]⟩
def ad_ctx_stepper_hop : Adv := ⟨53, [[0, 1], [0, 1, 12], [4], [0, 1, 5], [0, 1, 5, 21], [4], [0, 1, 5, 6], [0, 1, 5, 6, 7, 8], [0, 1, 5, 6, 8, 33], [4], [0, 5, 9], [0, 5, 9, 39], [0, 5, 9], [], [4]], [], []⟩
noncomputable def es_ctx_stepper_hop : List (Ent U) := [e_ctx_counts, e_addr_Long, e_ctx_Family]
noncomputable def g_ctx_stepper_hop : S_ctx_stepper × (List UInt8) × Unit → Option ((Int × Unit) × (S_ctx_stepper × Unit)) := runFn (U := U) Tryz.prog es_ctx_stepper_hop ad_ctx_stepper_hop 0 Tryz.f235 sg_ctx_stepper_hop
noncomputable def e_ctx_stepper_hop : Ent U := ⟨235, sg_ctx_stepper_hop, g_ctx_stepper_hop⟩
def sg_route_reader_num : Sig τ := ⟨[(true, T_route_reader), (false, T_int)], [T_int]⟩
def ad_route_reader_num : Adv := ⟨21, [[0, 1], [0, 5, 6], [5], [4]], [], []⟩
noncomputable def es_route_reader_num : List (Ent U) := [e_cursor_Num]
noncomputable def g_route_reader_num : S_route_reader × Int × Unit → Option ((Int × Unit) × (S_route_reader × Unit)) := runFn (U := U) Tryz.prog es_route_reader_num ad_route_reader_num 0 Tryz.f240 sg_route_reader_num
noncomputable def e_route_reader_num : Ent U := ⟨240, sg_route_reader_num, g_route_reader_num⟩
def sg_route_shapes : Sig τ := ⟨[], [T_4_route_shape]⟩
def ad_route_shapes : Adv := ⟨6, [[0], [0]], [], []⟩
noncomputable def es_route_shapes : List (Ent U) := []
noncomputable def g_route_shapes : Unit → Option ((S_4_route_shape × Unit) × Unit) := runFn (U := U) Tryz.prog es_route_shapes ad_route_shapes 0 Tryz.f227 sg_route_shapes
noncomputable def e_route_shapes : Ent U := ⟨227, sg_route_shapes, g_route_shapes⟩
def sg_prefix_Least : Sig τ := ⟨[(false, T_int)], [T_int]⟩
def ad_prefix_Least : Adv := ⟨7, [[0], [2]], [], []⟩
noncomputable def es_prefix_Least : List (Ent U) := []
noncomputable def g_prefix_Least : Int × Unit → Option ((Int × Unit) × Unit) := runFn (U := U) Tryz.prog es_prefix_Least ad_prefix_Least 0 Tryz.f261 sg_prefix_Least
noncomputable def e_prefix_Least : Ent U := ⟨261, sg_prefix_Least, g_prefix_Least⟩
def sg_route_reader_text : Sig τ := ⟨[(true, T_route_reader), (false, T_int)], [T_string]⟩
def ad_route_reader_text : Adv := ⟨21, [[0, 1], [0, 5, 6], [5], [4]], [], []⟩
noncomputable def es_route_reader_text : List (Ent U) := [e_cursor_Text]
noncomputable def g_route_reader_text : S_route_reader × Int × Unit → Option (((List UInt8) × Unit) × (S_route_reader × Unit)) := runFn (U := U) Tryz.prog es_route_reader_text ad_route_reader_text 0 Tryz.f241 sg_route_reader_text
noncomputable def e_route_reader_text : Ent U := ⟨241, sg_route_reader_text, g_route_reader_text⟩
def sg_route_reader_prefix : Sig τ := ⟨[(true, T_route_reader), (false, T_int), (false, T_int), (false, T_int)], [T_string, T_api_Errno]⟩
def ad_route_reader_prefix : Adv := ⟨46, [[0, 1, 2, 3], [0, 2, 3, 10], [0, 2, 10, 11], [0, 11, 36], [8, 9], [0, 12], [12, 44], [8, 9], [8, 9]], [], []⟩
noncomputable def es_route_reader_prefix : List (Ent U) := [e_route_shapes, e_prefix_Least, e_route_reader_text]
noncomputable def g_route_reader_prefix : S_route_reader × Int × Int × Int × Unit → Option (((List UInt8) × Int × Unit) × (S_route_reader × Unit)) := runFn (U := U) Tryz.prog es_route_reader_prefix ad_route_reader_prefix 0 Tryz.f242 sg_route_reader_prefix
noncomputable def e_route_reader_prefix : Ent U := ⟨242, sg_route_reader_prefix, g_route_reader_prefix⟩
def sg_route_reader_rest : Sig τ := ⟨[(true, T_route_reader)], [T_list_api_Sub, T_bool, T_api_Errno]⟩
def ad_route_reader_rest : Adv := ⟨16, [[0], [2, 3, 4]], [], []⟩
noncomputable def es_route_reader_rest : List (Ent U) := [e_cursor_Left, e_route_reader_text, e_sub_Get]
noncomputable def g_route_reader_rest : S_route_reader × Unit → Option (((List S_api_Sub) × Bool × Int × Unit) × (S_route_reader × Unit)) := runFn (U := U) Tryz.prog es_route_reader_rest ad_route_reader_rest 0 Tryz.f243 sg_route_reader_rest
noncomputable def e_route_reader_rest : Ent U := ⟨243, sg_route_reader_rest, g_route_reader_rest⟩
def sg_route_Take : Sig τ := ⟨[(false, T_api_Tlv)], [T_api_Raw, T_bool, T_api_Errno]⟩
def ad_route_Take : Adv := ⟨93, [[1, 2], [2, 5], [2, 5, 6], [2, 5, 6, 24, 25, 26], [2, 5, 6, 24, 25, 26, 27], [2, 5, 6, 8, 24, 25, 26], [2, 5, 6, 24, 25, 26], [2, 5, 6, 24, 25, 26], [2, 5, 6, 38, 39, 40], [2, 5, 6, 38, 39, 40, 41], [2, 5, 6, 10, 38, 39, 40], [2, 5, 6, 38, 39, 40], [2, 5, 6, 38, 39, 40], [2, 5, 6, 49], [2, 3, 4], [2, 5, 6, 56], [2, 3, 4], [2, 5, 6, 11, 12], [2, 5, 6, 11, 12, 73], [2, 3, 4], [2, 6, 11, 12, 13, 14], [2, 6, 11, 12, 13, 14, 83], [2, 3, 4], [2, 6, 14], [2, 6, 90], [2, 6], [2, 3, 4]], [], []⟩
noncomputable def es_route_Take : List (Ent U) := [e_cursor_New, e_route_reader_num, e_route_reader_prefix, e_route_reader_rest]
noncomputable def h_route_Take (n : Nat) : S_api_Tlv × Unit → Option ((S_api_Raw × Bool × Int × Unit) × Unit) := runFn (U := U) Tryz.prog es_route_Take ad_route_Take n Tryz.f265 sg_route_Take
noncomputable def g_route_Take : S_api_Tlv × Unit → Option ((S_api_Raw × Bool × Int × Unit) × Unit) := h_route_Take fuel
noncomputable def e_route_Take : Ent U := ⟨265, sg_route_Take, g_route_Take⟩
noncomputable def fn_route_Take := lp (tab es_route_Take) ad_route_Take Tryz.f265 0 sg_route_Take
noncomputable def L_route_Take_0 (n m : Nat) (x6_0 : Int) (x6_1 : Int) (x6_2 : Int) (x6_3 : Int) (x19_0 : List UInt8) (x19_1 : Int) (x19_2 : Int) (x19_3 : Bool) (x26 : Int) : Option ((S_api_Raw × Bool × Int × Unit) × Unit) :=
  fn_route_Take n [.r, .r, .r, .l, .r, .l, .at m] [(2, .box [.int .i64 0, .int .i64 0, .int .i64 0, .int .i64 0, .int .i64 0, .int .i64 0, .int .i64 0, .int .i64 0, .str ([] : List UInt8), .sl 89 [] .app]), (5, .one (.ref 19 0)), (6, .box [.int .i64 x6_0, .int .i64 x6_1, .int .i64 x6_2, .int .i64 x6_3, .int .i64 0, .int .i64 0, .int .i64 0, .int .i64 0, .str ([] : List UInt8), .sl 89 [] .app]), (19, .box [.str x19_0, .int .i64 x19_1, .int .i64 x19_2, .bool x19_3]), (24, .one (.prow 6 [0, 1, 2, 3])), (25, .one (.int .i64 4)), (26, .one (.int .i64 x26))]
noncomputable def L_route_Take_1 (n m : Nat) (x6_0 : Int) (x6_1 : Int) (x6_2 : Int) (x6_3 : Int) (x6_4 : Int) (x6_5 : Int) (x6_6 : Int) (x19_0 : List UInt8) (x19_1 : Int) (x19_2 : Int) (x19_3 : Bool) (x40 : Int) : Option ((S_api_Raw × Bool × Int × Unit) × Unit) :=
  fn_route_Take n [.r, .r, .r, .r, .l, .r, .l, .at m] [(2, .box [.int .i64 0, .int .i64 0, .int .i64 0, .int .i64 0, .int .i64 0, .int .i64 0, .int .i64 0, .int .i64 0, .str ([] : List UInt8), .sl 89 [] .app]), (5, .one (.ref 19 0)), (6, .box [.int .i64 x6_0, .int .i64 x6_1, .int .i64 x6_2, .int .i64 x6_3, .int .i64 x6_4, .int .i64 x6_5, .int .i64 x6_6, .int .i64 0, .str ([] : List UInt8), .sl 89 [] .app]), (19, .box [.str x19_0, .int .i64 x19_1, .int .i64 x19_2, .bool x19_3]), (38, .one (.prow 6 [4, 5, 6])), (39, .one (.int .i64 3)), (40, .one (.int .i64 x40))]
def sg_prefix_Fill : Sig τ := ⟨[(false, T_string), (false, T_int)], [T_string]⟩
def ad_prefix_Fill : Adv := ⟨18, [[0, 1], [0, 1, 9], [4], [0, 5], [5], [4]], [], []⟩
noncomputable def es_prefix_Fill : List (Ent U) := []
noncomputable def g_prefix_Fill : (List UInt8) × Int × Unit → Option (((List UInt8) × Unit) × Unit) := runFn (U := U) Tryz.prog es_prefix_Fill ad_prefix_Fill 0 Tryz.f269 sg_prefix_Fill
noncomputable def e_prefix_Fill : Ent U := ⟨269, sg_prefix_Fill, g_prefix_Fill⟩
def sg_ctx_stepper_address : Sig τ := ⟨[(true, T_ctx_stepper), (false, T_api_Raw)], [T_string, T_bool]⟩
def ad_ctx_stepper_address : Adv := ⟨56, [[0, 3], [0, 3, 6, 7], [0, 3, 6, 7, 16], [0, 3, 6, 7], [3, 6, 7, 8], [3, 6, 7, 8, 27], [3, 6, 7, 8], [3, 6, 7, 8, 29], [4, 5], [3, 6, 7, 8], [3, 7, 9], [3, 9, 46], [3, 9], [4, 5]], [], []⟩
noncomputable def es_ctx_stepper_address : List (Ent U) := [e_prefix_Fill, e_addr_Long, e_bits_Keep]
noncomputable def g_ctx_stepper_address : S_ctx_stepper × S_api_Raw × Unit → Option (((List UInt8) × Bool × Unit) × (S_ctx_stepper × Unit)) := runFn (U := U) Tryz.prog es_ctx_stepper_address ad_ctx_stepper_address 0 Tryz.f266 sg_ctx_stepper_address
noncomputable def e_ctx_stepper_address : Ent U := ⟨266, sg_ctx_stepper_address, g_ctx_stepper_address⟩
def sg_ctx_stepper_flags : Sig τ := ⟨[(true, T_ctx_stepper), (false, T_api_Raw), (false, T_string)], []⟩
def ad_ctx_stepper_flags : Adv := ⟨38, [[0, 2, 4], [0, 2, 4, 9], [0, 2, 4, 13], [0, 2, 4], [0, 2, 25], [0, 6], []], [], []⟩
noncomputable def es_ctx_stepper_flags : List (Ent U) := [e_octet_Zeros]
noncomputable def g_ctx_stepper_flags : S_ctx_stepper × S_api_Raw × (List UInt8) × Unit → Option ((Unit) × (S_ctx_stepper × Unit)) := runFn (U := U) Tryz.prog es_ctx_stepper_flags ad_ctx_stepper_flags 0 Tryz.f267 sg_ctx_stepper_flags
noncomputable def e_ctx_stepper_flags : Ent U := ⟨267, sg_ctx_stepper_flags, g_ctx_stepper_flags⟩
def sg_ctx_stepper_told : Sig τ := ⟨[(true, T_ctx_stepper), (false, T_api_Raw)], [T_bool]⟩
def ad_ctx_stepper_told : Adv := ⟨26, [[0, 3], [4]], [], []⟩
noncomputable def es_ctx_stepper_told : List (Ent U) := []
noncomputable def g_ctx_stepper_told : S_ctx_stepper × S_api_Raw × Unit → Option ((Bool × Unit) × (S_ctx_stepper × Unit)) := runFn (U := U) Tryz.prog es_ctx_stepper_told ad_ctx_stepper_told 0 Tryz.f268 sg_ctx_stepper_told
noncomputable def e_ctx_stepper_told : Ent U := ⟨268, sg_ctx_stepper_told, g_ctx_stepper_told⟩
def sg_ctx_stepper_update : Sig τ := ⟨[(true, T_ctx_stepper), (false, T_api_Tlv)], [T_list_api_Msg, T_api_Errno]⟩
def ad_ctx_stepper_update : Adv := ⟨71, [[0, 3], [0, 6, 7, 8], [0, 6, 8, 18], [4, 5], [0, 6, 7, 9], [0, 6, 9, 27], [4, 5], [0, 6, 9], [0, 6, 9, 35], [4, 5], [0, 10], [0, 10, 52], [10], [4, 5]], [], []⟩
noncomputable def es_ctx_stepper_update : List (Ent U) := [e_route_Take, e_ctx_stepper_address, e_ctx_stepper_flags, e_ctx_stepper_told, e_ctx_Family]
noncomputable def g_ctx_stepper_update : S_ctx_stepper × S_api_Tlv × Unit → Option (((List S_api_Msg) × Int × Unit) × (S_ctx_stepper × Unit)) := runFn (U := U) Tryz.prog es_ctx_stepper_update ad_ctx_stepper_update 0 Tryz.f236 sg_ctx_stepper_update
noncomputable def e_ctx_stepper_update : Ent U := ⟨236, sg_ctx_stepper_update, g_ctx_stepper_update⟩
def sg_ctx_Step : Sig τ := ⟨[(false, T_api_Ctx), (false, T_api_Tlv)], [T_api_Ctx, T_list_api_Msg, T_api_Errno]⟩
def ad_ctx_Step : Adv := ⟨41, [[2, 3, 4], [3, 4, 7], [3, 4, 7, 8], [3, 4, 7, 8, 9], [3, 4, 7, 8, 9, 14], [3, 4, 7, 8, 9, 14, 15], [4, 7, 8, 9], [3, 4, 7, 8, 9, 14, 21], [4, 7, 8, 9], [3, 4, 7, 8, 9, 27], [4, 7, 8, 9], [4, 5, 6]], [], []⟩
noncomputable def es_ctx_Step : List (Ent U) := [e_ctx_stepper_id, e_ctx_stepper_hop, e_ctx_stepper_update]
noncomputable def g_ctx_Step : S_api_Ctx × S_api_Tlv × Unit → Option ((S_api_Ctx × (List S_api_Msg) × Int × Unit) × Unit) := runFn (U := U) Tryz.prog es_ctx_Step ad_ctx_Step 0 Tryz.f199 sg_ctx_Step
noncomputable def e_ctx_Step : Ent U := ⟨199, sg_ctx_Step, g_ctx_Step⟩
def sg_field_reader_two : Sig τ := ⟨[(true, T_field_reader)], [T_int]⟩
def ad_field_reader_two : Adv := ⟨18, [[0], [0, 3, 4], [3], [2]], [], []⟩
noncomputable def es_field_reader_two : List (Ent U) := [e_cursor_Num]
noncomputable def g_field_reader_two : S_field_reader × Unit → Option ((Int × Unit) × (S_field_reader × Unit)) := runFn (U := U) Tryz.prog es_field_reader_two ad_field_reader_two 0 Tryz.f237 sg_field_reader_two
noncomputable def e_field_reader_two : Ent U := ⟨237, sg_field_reader_two, g_field_reader_two⟩
def sg_field_reader_addr : Sig τ := ⟨[(true, T_field_reader), (false, T_int)], [T_string]⟩
def ad_field_reader_addr : Adv := ⟨36, [[0, 1], [0, 1, 5, 6], [1, 5], [1, 5, 7, 8], [5, 7, 33], [4], [4]], [], []⟩
noncomputable def es_field_reader_addr : List (Ent U) := [e_cursor_Text, e_addr_Long]
noncomputable def g_field_reader_addr : S_field_reader × Int × Unit → Option (((List UInt8) × Unit) × (S_field_reader × Unit)) := runFn (U := U) Tryz.prog es_field_reader_addr ad_field_reader_addr 0 Tryz.f238 sg_field_reader_addr
noncomputable def e_field_reader_addr : Ent U := ⟨238, sg_field_reader_addr, g_field_reader_addr⟩
def sg_field_Get : Sig τ := ⟨[(false, T_api_Tlv)], [T_api_Msg, T_bool, T_api_Errno]⟩
def ad_field_Get : Adv := ⟨103, [[1, 2], [1, 2, 5], [1, 2, 5, 6], [1, 2, 5, 6, 21], [1, 2, 5, 6, 21, 22], [1, 2, 5, 6], [1, 2, 5, 6], [1, 2, 5, 6, 21, 32], [1, 2, 5, 6], [1, 2, 5, 6, 21, 37], [1, 2, 5, 6], [1, 2, 5, 6, 49], [1, 2, 5, 6], [1, 2, 5, 6, 63], [1, 2, 5, 6], [1, 2, 5, 6, 73], [2, 3, 4], [1, 2, 5, 6, 77], [2, 3, 4], [2, 6, 7, 8, 9], [2, 6, 7, 9, 97], [2, 3, 4], [2, 6], [2, 3, 4]], [], []⟩
noncomputable def es_field_Get : List (Ent U) := [e_cursor_New, e_field_reader_two, e_sub_Get, e_field_reader_addr]
noncomputable def g_field_Get : S_api_Tlv × Unit → Option ((S_api_Msg × Bool × Int × Unit) × Unit) := runFn (U := U) Tryz.prog es_field_Get ad_field_Get 0 Tryz.f200 sg_field_Get
noncomputable def e_field_Get : Ent U := ⟨200, sg_field_Get, g_field_Get⟩
def sg_route_whole : Sig τ := ⟨[(false, T_int), (false, T_string), (false, T_int)], [T_string]⟩
def ad_route_whole : Adv := ⟨29, [[0, 1, 2], [0, 1, 2, 7], [0, 2, 8], [2, 8, 20], [2, 8], [6]], [], []⟩
noncomputable def es_route_whole : List (Ent U) := [e_route_shapes, e_prefix_Fill, e_addr_Long, e_bits_Keep]
noncomputable def g_route_whole : Int × (List UInt8) × Int × Unit → Option (((List UInt8) × Unit) × Unit) := runFn (U := U) Tryz.prog es_route_whole ad_route_whole 0 Tryz.f244 sg_route_whole
noncomputable def e_route_whole : Ent U := ⟨244, sg_route_whole, g_route_whole⟩
def sg_route_Get : Sig τ := ⟨[(false, T_api_Tlv)], [T_api_Msg, T_bool, T_api_Errno]⟩
def ad_route_Get : Adv := ⟨102, [[1, 2], [1, 2, 5], [1, 2, 5, 6], [1, 2, 5, 6], [1, 2, 5, 6, 25], [1, 2, 5, 6], [1, 2, 5, 6], [1, 2, 5, 6], [1, 2, 5, 6], [1, 2, 5, 6, 38], [2, 3, 4], [1, 2, 5, 6, 45], [2, 3, 4], [1, 2, 5, 6, 7, 8], [1, 2, 5, 6, 7, 8, 60], [2, 3, 4], [1, 2, 6, 7, 8, 9, 10], [2, 6, 7, 8, 9, 89], [2, 3, 4], [2, 6], [2, 3, 4]], [], []⟩
noncomputable def es_route_Get : List (Ent U) := [e_cursor_New, e_route_reader_num, e_route_reader_text, e_route_reader_prefix, e_route_reader_rest, e_route_whole]
noncomputable def g_route_Get : S_api_Tlv × Unit → Option ((S_api_Msg × Bool × Int × Unit) × Unit) := runFn (U := U) Tryz.prog es_route_Get ad_route_Get 0 Tryz.f201 sg_route_Get
noncomputable def e_route_Get : Ent U := ⟨201, sg_route_Get, g_route_Get⟩
def sg_intake_one : Sig τ := ⟨[(false, T_api_Ctx), (false, T_api_Tlv)], [T_api_Ctx, T_list_api_Msg, T_api_Errno]⟩
def ad_intake_one : Adv := ⟨62, [[2, 3, 4], [2, 3, 4, 7], [2, 3, 4, 7], [2, 3, 4, 7, 9], [2, 3, 4, 7, 9, 11], [2, 4, 7, 8, 9], [2, 3, 4, 7, 9, 11, 17], [2, 3, 4, 7, 9, 11, 17], [4, 5, 6], [2, 3, 4, 7, 9, 11, 21], [2, 3, 4, 7, 9, 11, 21], [2, 3, 4, 7, 9, 11, 21], [4, 5, 6], [2, 3, 4, 7, 9, 11, 31], [2, 3, 4, 7, 9, 11, 31], [2, 3, 4, 7, 9, 11, 31], [2, 3, 4, 7, 9, 11, 31], [2, 4, 7, 8, 9], [2, 3, 4, 7, 9, 11, 42], [2, 3, 4, 7, 9, 42], [2, 4, 7, 8, 9], [2, 4, 7, 9, 56], [4, 5, 6], [4, 5, 6]], [], [999999]⟩
noncomputable def es_intake_one : List (Ent U) := [e_ctx_Step, e_field_Get, e_route_Get]
noncomputable def g_intake_one : S_api_Ctx × S_api_Tlv × Unit → Option ((S_api_Ctx × (List S_api_Msg) × Int × Unit) × Unit) := runFn (U := U) Tryz.prog es_intake_one ad_intake_one 0 Tryz.f132 sg_intake_one
noncomputable def e_intake_one : Ent U := ⟨132, sg_intake_one, g_intake_one⟩
def sg_intake_Fold : Sig τ := ⟨[(false, T_list_api_Tlv)], [T_list_api_Msg, T_api_Ctx, T_int, T_api_Errno]⟩
def ad_intake_Fold : Adv := ⟨43, [[0, 3], [0, 3, 6], [0, 3, 6, 7], [0, 3, 6, 7, 13, 14], [0, 3, 6, 7, 13, 14, 15], [0, 3, 6, 7, 8, 13, 14], [0, 3, 6, 7, 8, 9, 10, 11, 13, 14], [0, 3, 6, 7, 8, 9, 10, 11, 13, 14, 28], [2, 3, 4, 5], [0, 3, 6, 7, 10, 13, 14], [0, 3, 6, 7, 13, 14], [0, 3, 6, 7, 13, 14], [2, 3, 4, 5]], [37], []⟩
noncomputable def es_intake_Fold : List (Ent U) := [e_intake_one]
noncomputable def h_intake_Fold (n : Nat) : (List S_api_Tlv) × Unit → Option (((List S_api_Msg) × S_api_Ctx × Int × Int × Unit) × Unit) := runFn (U := U) Tryz.prog es_intake_Fold ad_intake_Fold n Tryz.f68 sg_intake_Fold
noncomputable def g_intake_Fold : (List S_api_Tlv) × Unit → Option (((List S_api_Msg) × S_api_Ctx × Int × Int × Unit) × Unit) := h_intake_Fold fuel
noncomputable def e_intake_Fold : Ent U := ⟨68, sg_intake_Fold, g_intake_Fold⟩
noncomputable def fn_intake_Fold := lp (tab es_intake_Fold) ad_intake_Fold Tryz.f68 0 sg_intake_Fold
noncomputable def L_intake_Fold_0 (n m : Nat) (a0 : List S_api_Tlv) (x6 : List S_api_Msg) (x7_0 : List UInt8) (x7_1 : List UInt8) (x7_2 : List UInt8) (x7_3 : List UInt8) (x7_4 : List UInt8) (x7_5 : List UInt8) (x7_6 : List UInt8) (x14 : Int) : Option (((List S_api_Msg) × S_api_Ctx × Int × Int × Unit) × Unit) :=
  fn_intake_Fold n [.r, .r, .r, .l, .r, .l, .at m] [(0, .one (.sl 122 a0 .ro)), (3, .box [.str ([] : List UInt8), .str ([] : List UInt8), .str ([] : List UInt8), .str ([] : List UInt8), .str ([] : List UInt8), .str ([] : List UInt8), .str ([] : List UInt8)]), (6, .one (.sl 29 x6 .app)), (7, .box [.str x7_0, .str x7_1, .str x7_2, .str x7_3, .str x7_4, .str x7_5, .str x7_6]), (13, .one (.int .i64 (a0.length : Int))), (14, .one (.int .i64 x14))]
def sg_intake_Parse : Sig τ := ⟨[(false, T_string)], [T_list_api_Msg, T_int, T_api_Errno]⟩
def ad_intake_Parse : Adv := ⟨55, [[0], [0, 5, 6, 7], [0, 5, 6, 7, 18], [2, 3, 4], [0, 5, 6, 7, 8], [0, 5, 6, 7, 8, 28], [2, 3, 4], [6, 7, 8], [6, 7, 8, 42], [2, 3, 4], [6, 7, 9], [2, 3, 4]], [], []⟩
noncomputable def es_intake_Parse : List (Ent U) := [e_frame_Body, e_frame_Split, e_frame_Trailer, e_intake_Fold]
noncomputable def g_intake_Parse : (List UInt8) × Unit → Option (((List S_api_Msg) × Int × Int × Unit) × Unit) := runFn (U := U) Tryz.prog es_intake_Parse ad_intake_Parse 0 Tryz.f38 sg_intake_Parse
noncomputable def e_intake_Parse : Ent U := ⟨38, sg_intake_Parse, g_intake_Parse⟩
def sg_suite_Parse : Sig τ := ⟨[(false, T_int), (false, T_string)], [T_list_api_Msg, T_int, T_api_Errno]⟩
def ad_suite_Parse : Adv := ⟨23, [[0, 1], [1, 7, 8], [1, 7, 15], [4, 5, 6], [4, 5, 6]], [], []⟩
noncomputable def es_suite_Parse : List (Ent U) := [e_rip_Parse, e_ripng_Parse, e_aodv_Parse, e_intake_Parse]
def ad_suite_of : Adv := ⟨18, [[0, 2], [2, 4], [2, 4, 5], [2, 3], [2, 4, 8], [2, 3], [2, 4, 11], [2, 3], [2, 14], [2, 3], [2, 3]], [], [999999]⟩
noncomputable def ph0_suite_Parse : Tab U := inl Tryz.prog 41 (tab es_suite_Parse) ad_suite_of 0 Tryz.f41 (tab es_suite_Parse)
noncomputable def g_suite_Parse : Int × (List UInt8) × Unit → Option (((List S_api_Msg) × Int × Int × Unit) × Unit) := runPh (U := U) Tryz.prog ph0_suite_Parse ad_suite_Parse 0 Tryz.f19 sg_suite_Parse
noncomputable def e_suite_Parse : Ent U := ⟨19, sg_suite_Parse, g_suite_Parse⟩
def sg_ref07_dests : Sig τ := ⟨[(false, T_list_api_Dest), (false, T_list_api_Dest)], [T_bool]⟩
def ad_ref07_dests : Adv := ⟨26, [[0, 1], [0, 1, 10], [4], [0, 1, 5], [0, 1, 5, 14], [0, 1, 5], [0, 1, 5, 25], [4], [4]], [], []⟩
noncomputable def es_ref07_dests : List (Ent U) := []
noncomputable def h_ref07_dests (n : Nat) : (List S_api_Dest) × (List S_api_Dest) × Unit → Option ((Bool × Unit) × Unit) := runFn (U := U) Tryz.prog es_ref07_dests ad_ref07_dests n Tryz.f109 sg_ref07_dests
noncomputable def g_ref07_dests : (List S_api_Dest) × (List S_api_Dest) × Unit → Option ((Bool × Unit) × Unit) := h_ref07_dests fuel
noncomputable def e_ref07_dests : Ent U := ⟨109, sg_ref07_dests, g_ref07_dests⟩
noncomputable def fn_ref07_dests := lp (tab es_ref07_dests) ad_ref07_dests Tryz.f109 0 sg_ref07_dests
noncomputable def L_ref07_dests_0 (n m : Nat) (a0 : List S_api_Dest) (a1 : List S_api_Dest) (x5 : Int) : Option ((Bool × Unit) × Unit) :=
  fn_ref07_dests n [.r, .r, .l, .r, .l, .at m] [(0, .one (.sl 87 a0 .ro)), (1, .one (.sl 87 a1 .ro)), (5, .one (.int .i64 x5))]
def sg_ref07_subs : Sig τ := ⟨[(false, T_list_api_Sub), (false, T_list_api_Sub)], [T_bool]⟩
def ad_ref07_subs : Adv := ⟨26, [[0, 1], [0, 1, 10], [4], [0, 1, 5], [0, 1, 5, 14], [0, 1, 5], [0, 1, 5, 25], [4], [4]], [], []⟩
noncomputable def es_ref07_subs : List (Ent U) := []
noncomputable def h_ref07_subs (n : Nat) : (List S_api_Sub) × (List S_api_Sub) × Unit → Option ((Bool × Unit) × Unit) := runFn (U := U) Tryz.prog es_ref07_subs ad_ref07_subs n Tryz.f110 sg_ref07_subs
noncomputable def g_ref07_subs : (List S_api_Sub) × (List S_api_Sub) × Unit → Option ((Bool × Unit) × Unit) := h_ref07_subs fuel
noncomputable def e_ref07_subs : Ent U := ⟨110, sg_ref07_subs, g_ref07_subs⟩
noncomputable def fn_ref07_subs := lp (tab es_ref07_subs) ad_ref07_subs Tryz.f110 0 sg_ref07_subs
noncomputable def L_ref07_subs_0 (n m : Nat) (a0 : List S_api_Sub) (a1 : List S_api_Sub) (x5 : Int) : Option ((Bool × Unit) × Unit) :=
  fn_ref07_subs n [.r, .r, .l, .r, .l, .at m] [(0, .one (.sl 89 a0 .ro)), (1, .one (.sl 89 a1 .ro)), (5, .one (.int .i64 x5))]
def sg_ref07_Same : Sig τ := ⟨[(false, T_api_Msg), (false, T_api_Msg)], [T_bool]⟩
def ad_ref07_Same : Adv := ⟨174, [[2, 3], [2, 3, 79], [4], [2, 3, 161], [4], [4]], [], []⟩
noncomputable def es_ref07_Same : List (Ent U) := [e_ref07_dests, e_ref07_subs]
noncomputable def g_ref07_Same : S_api_Msg × S_api_Msg × Unit → Option ((Bool × Unit) × Unit) := runFn (U := U) Tryz.prog es_ref07_Same ad_ref07_Same 0 Tryz.f54 sg_ref07_Same
noncomputable def e_ref07_Same : Ent U := ⟨54, sg_ref07_Same, g_ref07_Same⟩
def sg_ref07_Bare : Sig τ := ⟨[(false, T_api_Msg)], [T_bool]⟩
def ad_ref07_Bare : Adv := ⟨214, [[1], [1, 3], [1, 3, 10], [2], [1, 3, 10, 11], [1, 3], [1, 3, 10, 34], [1, 3], [1, 3, 10, 51], [1, 3], [1, 3, 10, 74], [1, 3], [1, 3, 10, 97], [1, 3], [1, 3, 10, 105], [1, 3, 10, 107], [1, 3], [1, 3, 10, 115], [1, 3], [1, 3, 10, 120], [1, 3], [1, 3, 10, 131], [1, 3], [1, 3, 10, 145], [1, 3], [1, 3, 10, 171], [1, 3], [1, 3, 10, 182], [1, 3], [1, 3, 202], [1, 3], [2]], [], []⟩
noncomputable def es_ref07_Bare : List (Ent U) := [e_ref07_Same]
noncomputable def g_ref07_Bare : S_api_Msg × Unit → Option ((Bool × Unit) × Unit) := runFn (U := U) Tryz.prog es_ref07_Bare ad_ref07_Bare 0 Tryz.f79 sg_ref07_Bare
noncomputable def e_ref07_Bare : Ent U := ⟨79, sg_ref07_Bare, g_ref07_Bare⟩
def sg_ref10_nought : Sig τ := ⟨[], [T_string]⟩
def ad_ref10_nought : Adv := ⟨1, [[], [0]], [], []⟩
noncomputable def es_ref10_nought : List (Ent U) := []
noncomputable def g_ref10_nought : Unit → Option (((List UInt8) × Unit) × Unit) := runFn (U := U) Tryz.prog es_ref10_nought ad_ref10_nought 0 Tryz.f80 sg_ref10_nought
noncomputable def e_ref10_nought : Ent U := ⟨80, sg_ref10_nought, g_ref10_nought⟩
def sg_ref03_Bit : Sig τ := ⟨[(false, T_string), (false, T_int)], [T_bool]⟩
def ad_ref03_Bit : Adv := ⟨28, [[0, 1], [4]], [], []⟩
noncomputable def es_ref03_Bit : List (Ent U) := []
noncomputable def g_ref03_Bit : (List UInt8) × Int × Unit → Option ((Bool × Unit) × Unit) := runFn (U := U) Tryz.prog es_ref03_Bit ad_ref03_Bit 0 Tryz.f252 sg_ref03_Bit
noncomputable def e_ref03_Bit : Ent U := ⟨252, sg_ref03_Bit, g_ref03_Bit⟩
def sg_ref03_Keep : Sig τ := ⟨[(false, T_string), (false, T_int)], [T_string]⟩
def ad_ref03_Keep : Adv := ⟨42, [[0, 1], [0, 1, 5], [0, 1, 5, 6], [0, 1, 5, 6, 19], [0, 1, 5, 6], [0, 1, 5, 6, 24], [0, 1, 5, 6], [4]], [], []⟩
noncomputable def es_ref03_Keep : List (Ent U) := [e_ref03_Bit]
noncomputable def h_ref03_Keep (n : Nat) : (List UInt8) × Int × Unit → Option (((List UInt8) × Unit) × Unit) := runFn (U := U) Tryz.prog es_ref03_Keep ad_ref03_Keep n Tryz.f218 sg_ref03_Keep
noncomputable def g_ref03_Keep : (List UInt8) × Int × Unit → Option (((List UInt8) × Unit) × Unit) := h_ref03_Keep fuel
noncomputable def e_ref03_Keep : Ent U := ⟨218, sg_ref03_Keep, g_ref03_Keep⟩
noncomputable def fn_ref03_Keep := lp (tab es_ref03_Keep) ad_ref03_Keep Tryz.f218 0 sg_ref03_Keep
noncomputable def L_ref03_Keep_0 (n m : Nat) (a0 : List UInt8) (a1 : Int) (x6 : Int) (x9 : List UInt8) : Option (((List UInt8) × Unit) × Unit) :=
  fn_ref03_Keep n [.r, .r, .l, .r, .l, .at m] [(0, .one (.str a0)), (1, .one (.int .i64 a1)), (5, .one (.sref 9)), (6, .one (.int .i64 x6)), (9, .bblk 5 x9 true)]
def sg_ref03_Clean : Sig τ := ⟨[(false, T_string), (false, T_int)], [T_bool]⟩
def ad_ref03_Clean : Adv := ⟨10, [[0, 1], [4]], [], []⟩
noncomputable def es_ref03_Clean : List (Ent U) := [e_ref03_Keep]
noncomputable def g_ref03_Clean : (List UInt8) × Int × Unit → Option ((Bool × Unit) × Unit) := runFn (U := U) Tryz.prog es_ref03_Clean ad_ref03_Clean 0 Tryz.f157 sg_ref03_Clean
noncomputable def e_ref03_Clean : Ent U := ⟨157, sg_ref03_Clean, g_ref03_Clean⟩
def sg_ref04_Right : Sig τ := ⟨[(false, T_string), (false, T_int)], [T_bool]⟩
def ad_ref04_Right : Adv := ⟨29, [[0, 1], [4]], [], []⟩
noncomputable def es_ref04_Right : List (Ent U) := [e_ref03_Clean]
noncomputable def g_ref04_Right : (List UInt8) × Int × Unit → Option ((Bool × Unit) × Unit) := runFn (U := U) Tryz.prog es_ref04_Right ad_ref04_Right 0 Tryz.f81 sg_ref04_Right
noncomputable def e_ref04_Right : Ent U := ⟨81, sg_ref04_Right, g_ref04_Right⟩
def sg_ref10_Right : Sig τ := ⟨[(false, T_api_Msg)], [T_bool]⟩
def ad_ref10_Right : Adv := ⟨135, [[1], [1, 42], [2], [1, 56], [2], [1, 59], [2], [1, 102], [2], [1, 105], [2], [2]], [], []⟩
noncomputable def es_ref10_Right : List (Ent U) := [e_ref07_Bare, e_ref10_nought, e_ref04_Right]
noncomputable def g_ref10_Right : S_api_Msg × Unit → Option ((Bool × Unit) × Unit) := runFn (U := U) Tryz.prog es_ref10_Right ad_ref10_Right 0 Tryz.f42 sg_ref10_Right
noncomputable def e_ref10_Right : Ent U := ⟨42, sg_ref10_Right, g_ref10_Right⟩
def sg_ref02_Zeros : Sig τ := ⟨[(false, T_int)], [T_string]⟩
def ad_ref02_Zeros : Adv := ⟨8, [[0], [0, 4], [2], [2]], [], []⟩
noncomputable def es_ref02_Zeros : List (Ent U) := []
noncomputable def g_ref02_Zeros : Int × Unit → Option (((List UInt8) × Unit) × Unit) := runFn (U := U) Tryz.prog es_ref02_Zeros ad_ref02_Zeros 0 Tryz.f158 sg_ref02_Zeros
noncomputable def e_ref02_Zeros : Ent U := ⟨158, sg_ref02_Zeros, g_ref02_Zeros⟩
def sg_ref12_none : Sig τ := ⟨[], [T_string]⟩
def ad_ref12_none : Adv := ⟨2, [[], [0]], [], []⟩
noncomputable def es_ref12_none : List (Ent U) := [e_ref02_Zeros]
noncomputable def g_ref12_none : Unit → Option (((List UInt8) × Unit) × Unit) := runFn (U := U) Tryz.prog es_ref12_none ad_ref12_none 0 Tryz.f82 sg_ref12_none
noncomputable def e_ref12_none : Ent U := ⟨82, sg_ref12_none, g_ref12_none⟩
def sg_ref06_link : Sig τ := ⟨[], [T_string]⟩
def ad_ref06_link : Adv := ⟨1, [[], [0]], [], []⟩
noncomputable def es_ref06_link : List (Ent U) := []
noncomputable def g_ref06_link : Unit → Option (((List UInt8) × Unit) × Unit) := runFn (U := U) Tryz.prog es_ref06_link ad_ref06_link 0 Tryz.f159 sg_ref06_link
noncomputable def e_ref06_link : Ent U := ⟨159, sg_ref06_link, g_ref06_link⟩
def sg_ref06_Link : Sig τ := ⟨[(false, T_string)], [T_bool]⟩
def ad_ref06_Link : Adv := ⟨12, [[0], [2]], [], []⟩
noncomputable def es_ref06_Link : List (Ent U) := [e_ref06_link]
noncomputable def g_ref06_Link : (List UInt8) × Unit → Option ((Bool × Unit) × Unit) := runFn (U := U) Tryz.prog es_ref06_Link ad_ref06_Link 0 Tryz.f83 sg_ref06_Link
noncomputable def e_ref06_Link : Ent U := ⟨83, sg_ref06_Link, g_ref06_Link⟩
def sg_ref07_Bytes : Sig τ := ⟨[(false, T_list_api_Sub)], [T_int]⟩
def ad_ref07_Bytes : Adv := ⟨21, [[0], [0, 3], [0, 3, 4], [0, 3, 4, 8], [0, 3, 4], [0, 3, 4], [2]], [], []⟩
noncomputable def es_ref07_Bytes : List (Ent U) := []
noncomputable def h_ref07_Bytes (n : Nat) : (List S_api_Sub) × Unit → Option ((Int × Unit) × Unit) := runFn (U := U) Tryz.prog es_ref07_Bytes ad_ref07_Bytes n Tryz.f220 sg_ref07_Bytes
noncomputable def g_ref07_Bytes : (List S_api_Sub) × Unit → Option ((Int × Unit) × Unit) := h_ref07_Bytes fuel
noncomputable def e_ref07_Bytes : Ent U := ⟨220, sg_ref07_Bytes, g_ref07_Bytes⟩
noncomputable def fn_ref07_Bytes := lp (tab es_ref07_Bytes) ad_ref07_Bytes Tryz.f220 0 sg_ref07_Bytes
noncomputable def L_ref07_Bytes_0 (n m : Nat) (a0 : List S_api_Sub) (x3 : Int) (x4 : Int) : Option ((Int × Unit) × Unit) :=
  fn_ref07_Bytes n [.r, .r, .l, .r, .l, .at m] [(0, .one (.sl 89 a0 .ro)), (3, .one (.int .i64 x3)), (4, .one (.int .i64 x4))]
def sg_ref22_Family : Sig τ := ⟨[(false, T_int)], [T_int]⟩
def ad_ref22_Family : Adv := ⟨11, [[0], [0, 4], [2], [10], [2], [2]], [], []⟩
noncomputable def es_ref22_Family : List (Ent U) := []
noncomputable def g_ref22_Family : Int × Unit → Option ((Int × Unit) × Unit) := runFn (U := U) Tryz.prog es_ref22_Family ad_ref22_Family 0 Tryz.f168 sg_ref22_Family
noncomputable def e_ref22_Family : Ent U := ⟨168, sg_ref22_Family, g_ref22_Family⟩
def sg_ref10_head : Sig τ := ⟨[(false, T_string)], [T_int, T_api_Errno]⟩
def ad_ref10_head : Adv := ⟨55, [[0], [0, 4], [2, 3], [0, 10], [2, 3], [0, 19], [2, 3], [0, 28], [2, 3], [0, 37], [2, 3], [0, 45], [2, 3], [51], [2, 3], [2, 3]], [], []⟩
noncomputable def es_ref10_head : List (Ent U) := []
noncomputable def g_ref10_head : (List UInt8) × Unit → Option ((Int × Int × Unit) × Unit) := runFn (U := U) Tryz.prog es_ref10_head ad_ref10_head 0 Tryz.f91 sg_ref10_head
noncomputable def e_ref10_head : Ent U := ⟨91, sg_ref10_head, g_ref10_head⟩
def sg_ref09_Is : Sig τ := ⟨[(false, T_string)], [T_bool]⟩
def ad_ref09_Is : Adv := ⟨16, [[0], [2]], [], []⟩
noncomputable def es_ref09_Is : List (Ent U) := []
noncomputable def g_ref09_Is : (List UInt8) × Unit → Option ((Bool × Unit) × Unit) := runFn (U := U) Tryz.prog es_ref09_Is ad_ref09_Is 0 Tryz.f92 sg_ref09_Is
noncomputable def e_ref09_Is : Ent U := ⟨92, sg_ref09_Is, g_ref09_Is⟩
def sg_ref09_Get : Sig τ := ⟨[(false, T_string)], [T_string, T_bool]⟩
def ad_ref09_Get : Adv := ⟨9, [[0], [0, 6], [2, 3], [2, 3]], [], []⟩
noncomputable def es_ref09_Get : List (Ent U) := [e_ref09_Is]
noncomputable def g_ref09_Get : (List UInt8) × Unit → Option (((List UInt8) × Bool × Unit) × Unit) := runFn (U := U) Tryz.prog es_ref09_Get ad_ref09_Get 0 Tryz.f93 sg_ref09_Get
noncomputable def e_ref09_Get : Ent U := ⟨93, sg_ref09_Get, g_ref09_Get⟩
def sg_ref08_Number : Sig τ := ⟨[(false, T_string)], [T_int]⟩
def ad_ref08_Number : Adv := ⟨23, [[0], [0, 3], [0, 3, 4], [0, 3, 4, 12], [0, 3, 4], [0, 3, 4], [2]], [], []⟩
noncomputable def es_ref08_Number : List (Ent U) := []
noncomputable def h_ref08_Number (n : Nat) : (List UInt8) × Unit → Option ((Int × Unit) × Unit) := runFn (U := U) Tryz.prog es_ref08_Number ad_ref08_Number n Tryz.f169 sg_ref08_Number
noncomputable def g_ref08_Number : (List UInt8) × Unit → Option ((Int × Unit) × Unit) := h_ref08_Number fuel
noncomputable def e_ref08_Number : Ent U := ⟨169, sg_ref08_Number, g_ref08_Number⟩
noncomputable def fn_ref08_Number := lp (tab es_ref08_Number) ad_ref08_Number Tryz.f169 0 sg_ref08_Number
noncomputable def L_ref08_Number_0 (n m : Nat) (a0 : List UInt8) (x3 : Int) (x4 : Int) : Option ((Int × Unit) × Unit) :=
  fn_ref08_Number n [.r, .r, .l, .r, .l, .at m] [(0, .one (.str a0)), (3, .one (.int .i64 x3)), (4, .one (.int .i64 x4))]
def sg_ref08_Get : Sig τ := ⟨[(false, T_string)], [T_api_Entry, T_bool]⟩
def ad_ref08_Get : Adv := ⟨24, [[0, 2], [0, 2, 6], [2, 3], [2, 3]], [], []⟩
noncomputable def es_ref08_Get : List (Ent U) := [e_ref08_Number]
noncomputable def g_ref08_Get : (List UInt8) × Unit → Option ((S_api_Entry × Bool × Unit) × Unit) := runFn (U := U) Tryz.prog es_ref08_Get ad_ref08_Get 0 Tryz.f94 sg_ref08_Get
noncomputable def e_ref08_Get : Ent U := ⟨94, sg_ref08_Get, g_ref08_Get⟩
def sg_ref05_Of : Sig τ := ⟨[(false, T_int)], [T_string, T_bool]⟩
def ad_ref05_Of : Adv := ⟨12, [[0], [0, 9], [2, 3], [2, 3]], [], []⟩
noncomputable def es_ref05_Of : List (Ent U) := [e_ref03_Keep]
noncomputable def g_ref05_Of : Int × Unit → Option (((List UInt8) × Bool × Unit) × Unit) := runFn (U := U) Tryz.prog es_ref05_Of ad_ref05_Of 0 Tryz.f175 sg_ref05_Of
noncomputable def e_ref05_Of : Ent U := ⟨175, sg_ref05_Of, g_ref05_Of⟩
def sg_ref05_Plen : Sig τ := ⟨[(false, T_string)], [T_int, T_bool]⟩
def ad_ref05_Plen : Adv := ⟨20, [[0], [0, 4], [0, 4, 8], [0, 4], [0, 4, 5], [0, 4, 18], [2, 3], [2, 3]], [], []⟩
noncomputable def es_ref05_Plen : List (Ent U) := [e_ref05_Of]
noncomputable def h_ref05_Plen (n : Nat) : (List UInt8) × Unit → Option ((Int × Bool × Unit) × Unit) := runFn (U := U) Tryz.prog es_ref05_Plen ad_ref05_Plen n Tryz.f170 sg_ref05_Plen
noncomputable def g_ref05_Plen : (List UInt8) × Unit → Option ((Int × Bool × Unit) × Unit) := h_ref05_Plen fuel
noncomputable def e_ref05_Plen : Ent U := ⟨170, sg_ref05_Plen, g_ref05_Plen⟩
noncomputable def fn_ref05_Plen := lp (tab es_ref05_Plen) ad_ref05_Plen Tryz.f170 0 sg_ref05_Plen
noncomputable def L_ref05_Plen_0 (n m : Nat) (a0 : List UInt8) (x4 : Int) : Option ((Int × Bool × Unit) × Unit) :=
  fn_ref05_Plen n [.r, .l, .r, .l, .at m] [(0, .one (.str a0)), (4, .one (.int .i64 x4))]
def sg_ref10_route : Sig τ := ⟨[(false, T_api_Entry), (false, T_int), (false, T_int), (false, T_string), (false, T_bool)], [T_api_Msg, T_api_Errno]⟩
def ad_ref10_route : Adv := ⟨98, [[1, 2, 3, 4, 5, 10], [2, 4, 5, 10, 12], [2, 4, 5, 10, 12, 31], [10, 12, 44], [10, 11], [10, 11], [2, 5, 10, 12, 49], [10, 11], [5, 10, 12, 52], [5, 10, 12], [5, 10, 12, 68], [10, 11], [5, 10, 12, 13, 14], [5, 10, 12, 13, 14], [5, 10, 12, 86], [10, 11], [10, 12, 95], [10, 11], [10, 11]], [], []⟩
noncomputable def es_ref10_route : List (Ent U) := [e_ref10_nought, e_ref10_Right, e_ref05_Plen, e_ref04_Right]
noncomputable def g_ref10_route : S_api_Entry × Int × Int × (List UInt8) × Bool × Unit → Option ((S_api_Msg × Int × Unit) × Unit) := runFn (U := U) Tryz.prog es_ref10_route ad_ref10_route 0 Tryz.f95 sg_ref10_route
noncomputable def e_ref10_route : Ent U := ⟨95, sg_ref10_route, g_ref10_route⟩
def sg_ref10_Parse : Sig τ := ⟨[(false, T_string)], [T_list_api_Msg, T_int, T_api_Errno]⟩
def ad_ref10_Parse : Adv := ⟨82, [[0], [0, 5, 6], [0, 5, 6, 20], [2, 3, 4], [0, 5, 7], [0, 5, 7, 30], [0, 7], [0, 5, 7], [0, 5, 7, 39], [2, 3, 4], [0, 5, 7, 8], [0, 5, 7, 8, 9], [0, 5, 7, 8, 9, 44], [0, 5, 7, 8, 9], [0, 5, 7, 8, 9, 10], [0, 5, 7, 8, 9, 12, 13], [0, 5, 7, 8, 9, 12, 13, 74], [2, 3, 4], [0, 5, 7, 8, 9], [2, 3, 4]], [77], []⟩
noncomputable def es_ref10_Parse : List (Ent U) := [e_ref10_head, e_ref09_Is, e_ref09_Get, e_ref08_Get, e_ref10_route]
noncomputable def h_ref10_Parse (n : Nat) : (List UInt8) × Unit → Option (((List S_api_Msg) × Int × Int × Unit) × Unit) := runFn (U := U) Tryz.prog es_ref10_Parse ad_ref10_Parse n Tryz.f46 sg_ref10_Parse
noncomputable def g_ref10_Parse : (List UInt8) × Unit → Option (((List S_api_Msg) × Int × Int × Unit) × Unit) := h_ref10_Parse fuel
noncomputable def e_ref10_Parse : Ent U := ⟨46, sg_ref10_Parse, g_ref10_Parse⟩
noncomputable def fn_ref10_Parse := lp (tab es_ref10_Parse) ad_ref10_Parse Tryz.f46 0 sg_ref10_Parse
noncomputable def L_ref10_Parse_0 (n m : Nat) (a0 : List UInt8) (x5 : Int) (x7 : List UInt8) (x8 : List S_api_Msg) (x9 : Int) : Option (((List S_api_Msg) × Int × Int × Unit) × Unit) :=
  fn_ref10_Parse n [.r, .r, .r, .r, .r, .r, .l, .r, .l, .at m] [(0, .one (.str a0)), (5, .one (.int .i64 x5)), (7, .one (.str x7)), (8, .one (.sl 29 x8 .app)), (9, .one (.int .i64 x9))]
def sg_ref11_Get : Sig τ := ⟨[(false, T_string)], [T_api_Entry, T_bool]⟩
def ad_ref11_Get : Adv := ⟨20, [[0, 2], [0, 2, 6], [2, 3], [2, 3]], [], []⟩
noncomputable def es_ref11_Get : List (Ent U) := [e_ref08_Number]
noncomputable def g_ref11_Get : (List UInt8) × Unit → Option ((S_api_Entry × Bool × Unit) × Unit) := runFn (U := U) Tryz.prog es_ref11_Get ad_ref11_Get 0 Tryz.f96 sg_ref11_Get
noncomputable def e_ref11_Get : Ent U := ⟨96, sg_ref11_Get, g_ref11_Get⟩
def sg_ref12_Parse : Sig τ := ⟨[(false, T_string)], [T_list_api_Msg, T_int, T_api_Errno]⟩
def ad_ref12_Parse : Adv := ⟨122, [[0], [0, 10], [2, 3, 4], [0, 14], [2, 3, 4], [0, 20], [2, 3, 4], [0, 29], [2, 3, 4], [0, 33], [2, 3, 4], [0, 42], [2, 3, 4], [0, 5], [0, 5, 6], [0, 5, 6, 7], [0, 5, 6, 7, 54], [0, 5, 6, 7], [0, 5, 6, 7, 8], [0, 5, 6, 7, 8, 68], [0, 5, 7, 8, 76], [2, 3, 4], [0, 5, 6, 7, 8], [0, 5, 6, 7, 8, 81], [0, 5, 6, 7], [0, 5, 6, 7, 8, 89], [2, 3, 4], [0, 5, 6, 7, 8, 98], [2, 3, 4], [0, 5, 6, 7], [0, 5, 118], [2, 3, 4], [2, 3, 4]], [100], []⟩
noncomputable def es_ref12_Parse : List (Ent U) := [e_ref12_none, e_ref11_Get, e_ref06_Link, e_ref04_Right]
noncomputable def h_ref12_Parse (n : Nat) : (List UInt8) × Unit → Option (((List S_api_Msg) × Int × Int × Unit) × Unit) := runFn (U := U) Tryz.prog es_ref12_Parse ad_ref12_Parse n Tryz.f47 sg_ref12_Parse
noncomputable def g_ref12_Parse : (List UInt8) × Unit → Option (((List S_api_Msg) × Int × Int × Unit) × Unit) := h_ref12_Parse fuel
noncomputable def e_ref12_Parse : Ent U := ⟨47, sg_ref12_Parse, g_ref12_Parse⟩
noncomputable def fn_ref12_Parse := lp (tab es_ref12_Parse) ad_ref12_Parse Tryz.f47 0 sg_ref12_Parse
noncomputable def L_ref12_Parse_0 (n m : Nat) (a0 : List UInt8) (x5 : List S_api_Msg) (x6 : List UInt8) (x7 : Int) : Option (((List S_api_Msg) × Int × Int × Unit) × Unit) :=
  fn_ref12_Parse n [.r, .r, .r, .r, .l, .r, .l, .at m] [(0, .one (.str a0)), (5, .one (.sl 29 x5 .app)), (6, .one (.str x6)), (7, .one (.int .i64 x7))]
def sg_ref13_Get : Sig τ := ⟨[(false, T_string)], [T_list_api_Sub, T_int, T_api_Errno]⟩
def ad_ref13_Get : Adv := ⟨57, [[0], [0, 5], [0, 5, 6], [0, 5, 6, 11], [0, 5, 6, 29], [2, 3, 4], [0, 5, 6, 7], [0, 5, 6, 7], [0, 5, 6], [2, 3, 4]], [36], []⟩
noncomputable def es_ref13_Get : List (Ent U) := []
noncomputable def h_ref13_Get (n : Nat) : (List UInt8) × Unit → Option (((List S_api_Sub) × Int × Int × Unit) × Unit) := runFn (U := U) Tryz.prog es_ref13_Get ad_ref13_Get n Tryz.f221 sg_ref13_Get
noncomputable def g_ref13_Get : (List UInt8) × Unit → Option (((List S_api_Sub) × Int × Int × Unit) × Unit) := h_ref13_Get fuel
noncomputable def e_ref13_Get : Ent U := ⟨221, sg_ref13_Get, g_ref13_Get⟩
noncomputable def fn_ref13_Get := lp (tab es_ref13_Get) ad_ref13_Get Tryz.f221 0 sg_ref13_Get
noncomputable def L_ref13_Get_0 (n m : Nat) (a0 : List UInt8) (x5 : List S_api_Sub) (x6 : Int) : Option (((List S_api_Sub) × Int × Int × Unit) × Unit) :=
  fn_ref13_Get n [.r, .r, .r, .l, .l, .at m] [(0, .one (.str a0)), (5, .one (.sl 89 x5 .app)), (6, .one (.int .i64 x6))]
def sg_ref14_Get : Sig τ := ⟨[(false, T_string)], [T_api_Msg, T_int, T_api_Errno]⟩
def ad_ref14_Get : Adv := ⟨59, [[0, 2], [0, 2, 10], [2, 3, 4], [0, 2, 22], [2, 3, 4], [0, 2, 5, 6, 7], [0, 2, 5, 6, 7, 32], [2, 3, 4], [2, 3, 4]], [], []⟩
noncomputable def es_ref14_Get : List (Ent U) := [e_ref13_Get, e_ref08_Number]
noncomputable def g_ref14_Get : (List UInt8) × Unit → Option ((S_api_Msg × Int × Int × Unit) × Unit) := runFn (U := U) Tryz.prog es_ref14_Get ad_ref14_Get 0 Tryz.f171 sg_ref14_Get
noncomputable def e_ref14_Get : Ent U := ⟨171, sg_ref14_Get, g_ref14_Get⟩
def sg_ref16_Get : Sig τ := ⟨[(false, T_string)], [T_api_Msg, T_int, T_api_Errno]⟩
def ad_ref16_Get : Adv := ⟨97, [[0, 2], [0, 2, 13], [2, 3, 4], [0, 2, 25], [2, 3, 4], [0, 2, 5], [0, 2, 5, 31], [2, 3, 4], [0, 2, 5, 38], [2, 3, 4], [0, 2, 5, 6], [0, 2, 5, 6, 7], [0, 2, 5, 6, 7, 49], [0, 2, 5, 6, 7], [0, 2, 5, 6, 7], [2, 5, 6, 8, 9, 10], [2, 5, 6, 8, 9, 10, 86], [2, 3, 4], [2, 6], [2, 3, 4]], [53], []⟩
noncomputable def es_ref16_Get : List (Ent U) := [e_ref08_Number, e_ref13_Get]
noncomputable def h_ref16_Get (n : Nat) : (List UInt8) × Unit → Option ((S_api_Msg × Int × Int × Unit) × Unit) := runFn (U := U) Tryz.prog es_ref16_Get ad_ref16_Get n Tryz.f172 sg_ref16_Get
noncomputable def g_ref16_Get : (List UInt8) × Unit → Option ((S_api_Msg × Int × Int × Unit) × Unit) := h_ref16_Get fuel
noncomputable def e_ref16_Get : Ent U := ⟨172, sg_ref16_Get, g_ref16_Get⟩
noncomputable def fn_ref16_Get := lp (tab es_ref16_Get) ad_ref16_Get Tryz.f172 0 sg_ref16_Get
noncomputable def L_ref16_Get_0 (n m : Nat) (a0 : List UInt8) (x5 : Int) (x6_15 : Int) (x6_21 : List S_api_Dest) (x7 : Int) : Option ((S_api_Msg × Int × Int × Unit) × Unit) :=
  fn_ref16_Get n [.r, .r, .r, .r, .r, .r, .r, .l, .r, .l, .at m] [(0, .one (.str a0)), (2, .box [.int .i64 0, .int .i64 0, .int .i64 0, .str ([] : List UInt8), .int .i64 0, .int .i64 0, .str ([] : List UInt8), .int .i64 0, .int .i64 0, .str ([] : List UInt8), .int .i64 0, .str ([] : List UInt8), .int .i64 0, .int .i64 0, .int .i64 0, .int .i64 0, .int .i64 0, .int .i64 0, .int .i64 0, .str ([] : List UInt8), .str ([] : List UInt8), .sl 87 [] .app, .int .i64 0, .str ([] : List UInt8), .sl 89 [] .app]), (5, .one (.int .i64 x5)), (6, .box [.int .i64 5, .int .i64 0, .int .i64 0, .str ([] : List UInt8), .int .i64 0, .int .i64 0, .str ([] : List UInt8), .int .i64 0, .int .i64 0, .str ([] : List UInt8), .int .i64 0, .str ([] : List UInt8), .int .i64 0, .int .i64 0, .int .i64 0, .int .i64 x6_15, .int .i64 0, .int .i64 0, .int .i64 0, .str ([] : List UInt8), .str ([] : List UInt8), .sl 87 x6_21 .app, .int .i64 0, .str ([] : List UInt8), .sl 89 [] .app]), (7, .one (.int .i64 x7))]
def sg_ref15_Get : Sig τ := ⟨[(false, T_string)], [T_api_Msg, T_int, T_api_Errno]⟩
def ad_ref15_Get : Adv := ⟨88, [[0, 2], [0, 2, 5], [0, 2, 5, 16], [0, 2, 5], [0, 2, 5, 20], [2, 3, 4], [0, 2, 5, 45], [2, 3, 4], [0, 2, 5, 6, 7, 8], [0, 2, 5, 6, 7, 8, 56], [2, 3, 4], [0, 2, 6, 63], [2, 3, 4], [2, 3, 4]], [], []⟩
noncomputable def es_ref15_Get : List (Ent U) := [e_ref13_Get, e_ref08_Number]
noncomputable def g_ref15_Get : (List UInt8) × Unit → Option ((S_api_Msg × Int × Int × Unit) × Unit) := runFn (U := U) Tryz.prog es_ref15_Get ad_ref15_Get 0 Tryz.f173 sg_ref15_Get
noncomputable def e_ref15_Get : Ent U := ⟨173, sg_ref15_Get, g_ref15_Get⟩
def sg_ref17_get : Sig τ := ⟨[(false, T_string)], [T_api_Msg, T_int, T_api_Errno]⟩
def ad_ref17_get : Adv := ⟨26, [[0, 2], [0, 2, 6], [0, 2, 6, 7], [2, 3, 4], [0, 2, 14], [2, 3, 4], [2, 3, 4]], [], []⟩
noncomputable def es_ref17_get : List (Ent U) := [e_ref14_Get, e_ref16_Get, e_ref15_Get]
noncomputable def g_ref17_get : (List UInt8) × Unit → Option ((S_api_Msg × Int × Int × Unit) × Unit) := runFn (U := U) Tryz.prog es_ref17_get ad_ref17_get 0 Tryz.f97 sg_ref17_get
noncomputable def e_ref17_get : Ent U := ⟨97, sg_ref17_get, g_ref17_get⟩
def sg_ref17_Parse : Sig τ := ⟨[(false, T_string)], [T_list_api_Msg, T_int, T_api_Errno]⟩
def ad_ref17_Parse : Adv := ⟨37, [[0], [0, 8], [2, 3, 4], [0, 12], [2, 3, 4], [0, 16], [2, 3, 4], [5, 6, 7], [5, 6, 7, 32], [2, 3, 4], [2, 3, 4]], [], []⟩
noncomputable def es_ref17_Parse : List (Ent U) := [e_ref17_get]
noncomputable def g_ref17_Parse : (List UInt8) × Unit → Option (((List S_api_Msg) × Int × Int × Unit) × Unit) := runFn (U := U) Tryz.prog es_ref17_Parse ad_ref17_Parse 0 Tryz.f48 sg_ref17_Parse
noncomputable def e_ref17_Parse : Ent U := ⟨48, sg_ref17_Parse, g_ref17_Parse⟩
def sg_ref18_Body : Sig τ := ⟨[(false, T_string)], [T_string, T_int, T_api_Errno]⟩
def ad_ref18_Body : Adv := ⟨43, [[0], [0, 6], [2, 3, 4], [0, 10], [2, 3, 4], [0, 16], [2, 3, 4], [0, 20], [2, 3, 4], [0, 5], [0, 5, 36], [2, 3, 4], [2, 3, 4]], [], []⟩
noncomputable def es_ref18_Body : List (Ent U) := []
noncomputable def g_ref18_Body : (List UInt8) × Unit → Option (((List UInt8) × Int × Int × Unit) × Unit) := runFn (U := U) Tryz.prog es_ref18_Body ad_ref18_Body 0 Tryz.f98 sg_ref18_Body
noncomputable def e_ref18_Body : Ent U := ⟨98, sg_ref18_Body, g_ref18_Body⟩
def sg_ref18_Split : Sig τ := ⟨[(false, T_string), (false, T_int)], [T_list_api_Tlv, T_int, T_api_Errno]⟩
def ad_ref18_Split : Adv := ⟨77, [[0, 1], [0, 1, 7], [0, 1, 7, 8], [0, 1, 7, 8, 13], [0, 1, 7, 8, 17], [0, 1, 7, 8], [0, 1, 7, 8], [0, 1, 7, 8, 44], [4, 5, 6], [0, 1, 7, 8, 9], [0, 1, 7, 8, 9], [0, 1, 7, 8], [4, 5, 6]], [18, 53], []⟩
noncomputable def es_ref18_Split : List (Ent U) := []
noncomputable def h_ref18_Split (n : Nat) : (List UInt8) × Int × Unit → Option (((List S_api_Tlv) × Int × Int × Unit) × Unit) := runFn (U := U) Tryz.prog es_ref18_Split ad_ref18_Split n Tryz.f99 sg_ref18_Split
noncomputable def g_ref18_Split : (List UInt8) × Int × Unit → Option (((List S_api_Tlv) × Int × Int × Unit) × Unit) := h_ref18_Split fuel
noncomputable def e_ref18_Split : Ent U := ⟨99, sg_ref18_Split, g_ref18_Split⟩
noncomputable def fn_ref18_Split := lp (tab es_ref18_Split) ad_ref18_Split Tryz.f99 0 sg_ref18_Split
noncomputable def L_ref18_Split_0 (n m : Nat) (a0 : List UInt8) (a1 : Int) (x7 : List S_api_Tlv) (x8 : Int) : Option (((List S_api_Tlv) × Int × Int × Unit) × Unit) :=
  fn_ref18_Split n [.r, .r, .r, .l, .l, .at m] [(0, .one (.str a0)), (1, .one (.int .i64 a1)), (7, .one (.sl 122 x7 .app)), (8, .one (.int .i64 x8))]
def sg_ref18_Trailer : Sig τ := ⟨[(false, T_string)], [T_string]⟩
def ad_ref18_Trailer : Adv := ⟨17, [[0], [0, 3], [2]], [], []⟩
noncomputable def es_ref18_Trailer : List (Ent U) := [e_ref18_Body]
noncomputable def g_ref18_Trailer : (List UInt8) × Unit → Option (((List UInt8) × Unit) × Unit) := runFn (U := U) Tryz.prog es_ref18_Trailer ad_ref18_Trailer 0 Tryz.f100 sg_ref18_Trailer
noncomputable def e_ref18_Trailer : Ent U := ⟨100, sg_ref18_Trailer, g_ref18_Trailer⟩
def sg_ref19_Get : Sig τ := ⟨[(false, T_string)], [T_list_api_Sub, T_bool, T_api_Errno]⟩
def ad_ref19_Get : Adv := ⟨68, [[0], [5, 7], [5, 7, 18], [2, 3, 4], [5, 8], [5, 8, 9], [5, 8, 9, 10], [5, 8, 9, 10, 23], [5, 8, 9, 10], [5, 8, 9, 10, 39], [5, 8, 9, 10], [5, 8, 9, 10], [8, 9, 65], [2, 3, 4], [2, 3, 4]], [40], []⟩
noncomputable def es_ref19_Get : List (Ent U) := [e_ref18_Split, e_ref07_Bytes]
noncomputable def h_ref19_Get (n : Nat) : (List UInt8) × Unit → Option (((List S_api_Sub) × Bool × Int × Unit) × Unit) := runFn (U := U) Tryz.prog es_ref19_Get ad_ref19_Get n Tryz.f258 sg_ref19_Get
noncomputable def g_ref19_Get : (List UInt8) × Unit → Option (((List S_api_Sub) × Bool × Int × Unit) × Unit) := h_ref19_Get fuel
noncomputable def e_ref19_Get : Ent U := ⟨258, sg_ref19_Get, g_ref19_Get⟩
noncomputable def fn_ref19_Get := lp (tab es_ref19_Get) ad_ref19_Get Tryz.f258 0 sg_ref19_Get
noncomputable def L_ref19_Get_0 (n m : Nat) (r1 : ((List S_api_Tlv) × Int × Int × Unit) × Unit) (x8 : List S_api_Sub) (x9 : Bool) (x10 : Int) : Option (((List S_api_Sub) × Bool × Int × Unit) × Unit) :=
  fn_ref19_Get n [.r, .r, .r, .r, .r, .l, .r, .l, .at m] [(5, .one (.sl 122 r1.1.1 .ro)), (8, .one (.sl 89 x8 .app)), (9, .one (.bool x9)), (10, .one (.int .i64 x10))]
def sg_ref22_fixed : Sig τ := ⟨[(false, T_string), (false, T_int)], [T_bool, T_api_Errno]⟩
def ad_ref22_fixed : Adv := ⟨23, [[0, 1], [0, 1, 12], [4, 5], [7, 8], [4, 5]], [], []⟩
noncomputable def es_ref22_fixed : List (Ent U) := [e_ref19_Get]
noncomputable def g_ref22_fixed : (List UInt8) × Int × Unit → Option ((Bool × Int × Unit) × Unit) := runFn (U := U) Tryz.prog es_ref22_fixed ad_ref22_fixed 0 Tryz.f253 sg_ref22_fixed
noncomputable def e_ref22_fixed : Ent U := ⟨253, sg_ref22_fixed, g_ref22_fixed⟩
def sg_ref20_Long : Sig τ := ⟨[(false, T_int)], [T_int]⟩
def ad_ref20_Long : Adv := ⟨7, [[0], [2]], [], []⟩
noncomputable def es_ref20_Long : List (Ent U) := []
noncomputable def g_ref20_Long : Int × Unit → Option ((Int × Unit) × Unit) := runFn (U := U) Tryz.prog es_ref20_Long ad_ref20_Long 0 Tryz.f256 sg_ref20_Long
noncomputable def e_ref20_Long : Ent U := ⟨256, sg_ref20_Long, g_ref20_Long⟩
def sg_ref06_Long : Sig τ := ⟨[(false, T_string)], [T_string, T_bool]⟩
def ad_ref06_Long : Adv := ⟨10, [[0], [0, 6], [2, 3], [2, 3]], [], []⟩
noncomputable def es_ref06_Long : List (Ent U) := [e_ref06_link]
noncomputable def g_ref06_Long : (List UInt8) × Unit → Option (((List UInt8) × Bool × Unit) × Unit) := runFn (U := U) Tryz.prog es_ref06_Long ad_ref06_Long 0 Tryz.f257 sg_ref06_Long
noncomputable def e_ref06_Long : Ent U := ⟨257, sg_ref06_Long, g_ref06_Long⟩
def sg_ref22_hop : Sig τ := ⟨[(false, T_api_Ctx), (false, T_string)], [T_api_Ctx, T_api_Errno]⟩
def ad_ref22_hop : Adv := ⟨58, [[1, 2, 4], [1, 2, 4, 13], [4, 5], [1, 2, 4, 6], [1, 2, 4, 6, 23], [4, 5], [1, 2, 4, 6, 7], [1, 2, 4, 6, 7, 8, 9], [1, 2, 4, 6, 7, 9, 39], [4, 5], [2, 4, 6, 10], [2, 4, 6, 10, 46], [2, 4, 6, 10], [2, 4], [4, 5]], [], []⟩
noncomputable def es_ref22_hop : List (Ent U) := [e_ref20_Long, e_ref22_fixed, e_ref06_Long, e_ref22_Family]
noncomputable def g_ref22_hop : S_api_Ctx × (List UInt8) × Unit → Option ((S_api_Ctx × Int × Unit) × Unit) := runFn (U := U) Tryz.prog es_ref22_hop ad_ref22_hop 0 Tryz.f254 sg_ref22_hop
noncomputable def e_ref22_hop : Ent U := ⟨254, sg_ref22_hop, g_ref22_hop⟩
def sg_ref21_great : Sig τ := ⟨[(false, T_int), (false, T_int)], [T_bool]⟩
def ad_ref21_great : Adv := ⟨24, [[0, 1], [1, 5], [1, 5, 6], [4], [1, 5, 10], [4], [1, 14], [4], [4]], [], []⟩
noncomputable def es_ref21_great : List (Ent U) := []
noncomputable def g_ref21_great : Int × Int × Unit → Option ((Bool × Unit) × Unit) := runFn (U := U) Tryz.prog es_ref21_great ad_ref21_great 0 Tryz.f259 sg_ref21_great
noncomputable def e_ref21_great : Ent U := ⟨259, sg_ref21_great, g_ref21_great⟩
def sg_ref04_Least : Sig τ := ⟨[(false, T_int)], [T_int]⟩
def ad_ref04_Least : Adv := ⟨8, [[0], [0, 4], [2], [2]], [], []⟩
noncomputable def es_ref04_Least : List (Ent U) := []
noncomputable def g_ref04_Least : Int × Unit → Option ((Int × Unit) × Unit) := runFn (U := U) Tryz.prog es_ref04_Least ad_ref04_Least 0 Tryz.f232 sg_ref04_Least
noncomputable def e_ref04_Least : Ent U := ⟨232, sg_ref04_Least, g_ref04_Least⟩
def sg_ref21_Base : Sig τ := ⟨[(false, T_int)], [T_int]⟩
def ad_ref21_Base : Adv := ⟨5, [[0], [4], [2], [2]], [], []⟩
noncomputable def es_ref21_Base : List (Ent U) := []
noncomputable def g_ref21_Base : Int × Unit → Option ((Int × Unit) × Unit) := runFn (U := U) Tryz.prog es_ref21_Base ad_ref21_Base 0 Tryz.f179 sg_ref21_Base
noncomputable def e_ref21_Base : Ent U := ⟨179, sg_ref21_Base, g_ref21_Base⟩
def sg_ref21_Take : Sig τ := ⟨[(false, T_api_Tlv)], [T_api_Raw, T_bool, T_api_Errno]⟩
def ad_ref21_Take : Adv := ⟨91, [[1, 2], [2, 5], [2, 5, 15], [2, 3, 4], [2, 5, 6], [2, 5, 6, 41], [2, 3, 4], [2, 5, 6, 47], [2, 3, 4], [2, 5, 6, 7], [2, 5, 6, 7, 60], [2, 3, 4], [2, 5, 6, 7, 66], [2, 3, 4], [2, 5, 6, 7, 8, 9, 10], [2, 5, 6, 7, 8, 9, 10, 78], [2, 3, 4], [2, 6, 9], [2, 6, 88], [2, 6], [2, 3, 4]], [], []⟩
noncomputable def es_ref21_Take : List (Ent U) := [e_ref08_Number, e_ref21_great, e_ref04_Least, e_ref21_Base, e_ref19_Get]
noncomputable def g_ref21_Take : S_api_Tlv × Unit → Option ((S_api_Raw × Bool × Int × Unit) × Unit) := runFn (U := U) Tryz.prog es_ref21_Take ad_ref21_Take 0 Tryz.f271 sg_ref21_Take
noncomputable def e_ref21_Take : Ent U := ⟨271, sg_ref21_Take, g_ref21_Take⟩
def sg_ref04_Fill : Sig τ := ⟨[(false, T_string), (false, T_int)], [T_string]⟩
def ad_ref04_Fill : Adv := ⟨12, [[0, 1], [0, 1, 8], [0, 1], [4]], [], []⟩
noncomputable def es_ref04_Fill : List (Ent U) := []
noncomputable def h_ref04_Fill (n : Nat) : (List UInt8) × Int × Unit → Option (((List UInt8) × Unit) × Unit) := runFn (U := U) Tryz.prog es_ref04_Fill ad_ref04_Fill n Tryz.f273 sg_ref04_Fill
noncomputable def g_ref04_Fill : (List UInt8) × Int × Unit → Option (((List UInt8) × Unit) × Unit) := h_ref04_Fill fuel
noncomputable def e_ref04_Fill : Ent U := ⟨273, sg_ref04_Fill, g_ref04_Fill⟩
noncomputable def fn_ref04_Fill := lp (tab es_ref04_Fill) ad_ref04_Fill Tryz.f273 0 sg_ref04_Fill
noncomputable def L_ref04_Fill_0 (n m : Nat) (a1 : Int) (x0 : List UInt8) : Option (((List UInt8) × Unit) × Unit) :=
  fn_ref04_Fill n [.r, .l, .l, .at m] [(0, .one (.str x0)), (1, .one (.int .i64 a1))]
def sg_ref21_Whole : Sig τ := ⟨[(false, T_int), (false, T_string), (false, T_int)], [T_string]⟩
def ad_ref21_Whole : Adv := ⟨33, [[0, 1, 2], [1, 2, 9], [1, 2, 9, 10], [6], [1, 2, 9, 16], [6], [1, 2, 22], [2, 7], [6], [6]], [], []⟩
noncomputable def es_ref21_Whole : List (Ent U) := [e_ref04_Fill, e_ref03_Keep, e_ref06_Long]
noncomputable def g_ref21_Whole : Int × (List UInt8) × Int × Unit → Option (((List UInt8) × Unit) × Unit) := runFn (U := U) Tryz.prog es_ref21_Whole ad_ref21_Whole 0 Tryz.f260 sg_ref21_Whole
noncomputable def e_ref21_Whole : Ent U := ⟨260, sg_ref21_Whole, g_ref21_Whole⟩
def sg_ref22_told : Sig τ := ⟨[(false, T_api_Ctx), (false, T_api_Raw), (false, T_string)], [T_api_Msg, T_bool]⟩
def ad_ref22_told : Adv := ⟨51, [[2, 3, 4, 6], [3, 4, 6, 8], [3, 4, 6, 8, 25], [6, 7], [3, 4, 6, 8, 29], [6, 7], [3, 4, 6, 8, 38], [6, 7], [6, 8], [6, 7]], [], []⟩
noncomputable def es_ref22_told : List (Ent U) := [e_ref22_Family]
noncomputable def g_ref22_told : S_api_Ctx × S_api_Raw × (List UInt8) × Unit → Option ((S_api_Msg × Bool × Unit) × Unit) := runFn (U := U) Tryz.prog es_ref22_told ad_ref22_told 0 Tryz.f272 sg_ref22_told
noncomputable def e_ref22_told : Ent U := ⟨272, sg_ref22_told, g_ref22_told⟩
def sg_ref22_update : Sig τ := ⟨[(false, T_api_Ctx), (false, T_api_Tlv)], [T_api_Ctx, T_list_api_Msg, T_api_Errno]⟩
def ad_ref22_update : Adv := ⟨109, [[2, 3, 4], [2, 4, 7, 8, 9], [2, 4, 7, 9, 26], [4, 5, 6], [2, 4, 7, 10], [2, 4, 7, 10, 31], [2, 4, 7, 11], [2, 4, 7, 11, 38], [4, 5, 6], [2, 4, 7, 10], [2, 4, 7, 12], [2, 4, 7, 12, 64], [2, 4, 7, 12], [2, 4, 7, 12, 79], [2, 4, 7, 12], [2, 4, 7, 12, 84], [2, 4, 7, 12], [2, 4, 7, 12], [2, 4, 13, 14], [2, 4, 13, 104], [4, 5, 6], [4, 5, 6]], [], []⟩
noncomputable def es_ref22_update : List (Ent U) := [e_ref21_Take, e_ref21_Base, e_ref21_Whole, e_ref22_told]
noncomputable def g_ref22_update : S_api_Ctx × S_api_Tlv × Unit → Option ((S_api_Ctx × (List S_api_Msg) × Int × Unit) × Unit) := runFn (U := U) Tryz.prog es_ref22_update ad_ref22_update 0 Tryz.f255 sg_ref22_update
noncomputable def e_ref22_update : Ent U := ⟨255, sg_ref22_update, g_ref22_update⟩
def sg_ref22_Step : Sig τ := ⟨[(false, T_api_Ctx), (false, T_api_Tlv)], [T_api_Ctx, T_list_api_Msg, T_api_Errno]⟩
def ad_ref22_Step : Adv := ⟨49, [[2, 3, 4], [2, 3, 4, 12], [2, 3, 4, 12, 13], [2, 3, 4, 7, 8], [2, 3, 4, 8, 25], [2, 4, 8], [4, 5, 6], [2, 3, 4, 32], [4, 9, 10], [4, 5, 6], [4, 5, 6]], [], []⟩
noncomputable def es_ref22_Step : List (Ent U) := [e_ref22_fixed, e_ref22_hop, e_ref22_update]
noncomputable def g_ref22_Step : S_api_Ctx × S_api_Tlv × Unit → Option ((S_api_Ctx × (List S_api_Msg) × Int × Unit) × Unit) := runFn (U := U) Tryz.prog es_ref22_Step ad_ref22_Step 0 Tryz.f222 sg_ref22_Step
noncomputable def e_ref22_Step : Ent U := ⟨222, sg_ref22_Step, g_ref22_Step⟩
def sg_ref20_Get : Sig τ := ⟨[(false, T_api_Tlv)], [T_api_Msg, T_bool, T_api_Errno]⟩
def ad_ref20_Get : Adv := ⟨108, [[1, 2], [1, 2, 5], [1, 2, 5, 6], [1, 2, 5, 6, 15], [1, 2, 5, 6], [1, 2, 5, 6, 19], [2, 3, 4], [1, 2, 5, 6, 7], [2, 5, 6, 7, 23], [2, 5, 7], [2, 5, 7, 36], [2, 3, 4], [2, 5, 6, 7], [2, 5, 6, 7, 45], [2, 3, 4], [2, 5, 6, 7], [2, 5, 6, 7, 53], [2, 5, 6, 7], [2, 5, 6, 7, 23, 61], [2, 5, 6, 7], [2, 5, 6, 7, 23, 70], [2, 5, 6, 7], [2, 5, 6, 7, 76], [2, 5, 6, 7], [2, 7, 8, 9, 10], [2, 7, 8, 10, 102], [2, 3, 4], [2, 7], [2, 3, 4]], [], []⟩
noncomputable def es_ref20_Get : List (Ent U) := [e_ref08_Number, e_ref19_Get, e_ref20_Long, e_ref06_Long]
noncomputable def g_ref20_Get : S_api_Tlv × Unit → Option ((S_api_Msg × Bool × Int × Unit) × Unit) := runFn (U := U) Tryz.prog es_ref20_Get ad_ref20_Get 0 Tryz.f223 sg_ref20_Get
noncomputable def e_ref20_Get : Ent U := ⟨223, sg_ref20_Get, g_ref20_Get⟩
def sg_ref21_Get : Sig τ := ⟨[(false, T_api_Tlv)], [T_api_Msg, T_bool, T_api_Errno]⟩
def ad_ref21_Get : Adv := ⟨104, [[1, 2], [1, 2, 5], [1, 2, 5, 6], [1, 2, 5, 6, 18], [1, 2, 5, 6], [1, 2, 5, 6, 22], [2, 3, 4], [1, 2, 5, 6, 7, 8], [1, 2, 5, 6, 7, 8, 31], [2, 3, 4], [1, 2, 5, 6, 7, 8, 35], [2, 3, 4], [1, 2, 5, 6, 7, 8, 9], [1, 2, 5, 6, 7, 8, 9, 47], [2, 3, 4], [1, 2, 5, 6, 7, 8, 9, 10, 11, 12], [1, 2, 5, 6, 7, 8, 9, 10, 12, 64], [2, 3, 4], [1, 2, 5, 7, 13], [2, 5, 7, 13, 82], [2, 7, 13], [2, 13, 101], [2, 3, 4], [2, 3, 4]], [], []⟩
noncomputable def es_ref21_Get : List (Ent U) := [e_ref21_great, e_ref04_Least, e_ref21_Base, e_ref19_Get, e_ref21_Whole, e_ref08_Number]
noncomputable def g_ref21_Get : S_api_Tlv × Unit → Option ((S_api_Msg × Bool × Int × Unit) × Unit) := runFn (U := U) Tryz.prog es_ref21_Get ad_ref21_Get 0 Tryz.f224 sg_ref21_Get
noncomputable def e_ref21_Get : Ent U := ⟨224, sg_ref21_Get, g_ref21_Get⟩
def sg_ref23_one : Sig τ := ⟨[(false, T_api_Ctx), (false, T_api_Tlv)], [T_api_Ctx, T_list_api_Msg, T_api_Errno]⟩
def ad_ref23_one : Adv := ⟨62, [[2, 3, 4], [2, 3, 4, 7], [2, 3, 4, 7], [2, 3, 4, 7, 9], [2, 3, 4, 7, 9, 11], [2, 4, 7, 8, 9], [2, 3, 4, 7, 9, 11, 17], [2, 3, 4, 7, 9, 11, 17], [4, 5, 6], [2, 3, 4, 7, 9, 11, 21], [2, 3, 4, 7, 9, 11, 21], [2, 3, 4, 7, 9, 11, 21], [4, 5, 6], [2, 3, 4, 7, 9, 11, 31], [2, 3, 4, 7, 9, 11, 31], [2, 3, 4, 7, 9, 11, 31], [2, 3, 4, 7, 9, 11, 31], [2, 4, 7, 8, 9], [2, 3, 4, 7, 9, 11, 42], [2, 3, 4, 7, 9, 42], [2, 4, 7, 8, 9], [2, 4, 7, 9, 56], [4, 5, 6], [4, 5, 6]], [], [999999]⟩
noncomputable def es_ref23_one : List (Ent U) := [e_ref22_Step, e_ref20_Get, e_ref21_Get]
noncomputable def g_ref23_one : S_api_Ctx × S_api_Tlv × Unit → Option ((S_api_Ctx × (List S_api_Msg) × Int × Unit) × Unit) := runFn (U := U) Tryz.prog es_ref23_one ad_ref23_one 0 Tryz.f174 sg_ref23_one
noncomputable def e_ref23_one : Ent U := ⟨174, sg_ref23_one, g_ref23_one⟩
def sg_ref23_Fold : Sig τ := ⟨[(false, T_list_api_Tlv)], [T_list_api_Msg, T_api_Ctx, T_int, T_api_Errno]⟩
def ad_ref23_Fold : Adv := ⟨43, [[0, 3], [0, 3, 6], [0, 3, 6, 7], [0, 3, 6, 7, 8], [0, 3, 6, 7, 8, 15], [0, 3, 6, 7, 8], [0, 3, 6, 7, 8, 9, 10, 11], [0, 3, 6, 7, 8, 9, 10, 11, 29], [2, 3, 4, 5], [0, 3, 6, 7, 8, 10], [0, 3, 6, 7, 8], [2, 3, 4, 5]], [38], []⟩
noncomputable def es_ref23_Fold : List (Ent U) := [e_ref23_one]
noncomputable def h_ref23_Fold (n : Nat) : (List S_api_Tlv) × Unit → Option (((List S_api_Msg) × S_api_Ctx × Int × Int × Unit) × Unit) := runFn (U := U) Tryz.prog es_ref23_Fold ad_ref23_Fold n Tryz.f101 sg_ref23_Fold
noncomputable def g_ref23_Fold : (List S_api_Tlv) × Unit → Option (((List S_api_Msg) × S_api_Ctx × Int × Int × Unit) × Unit) := h_ref23_Fold fuel
noncomputable def e_ref23_Fold : Ent U := ⟨101, sg_ref23_Fold, g_ref23_Fold⟩
noncomputable def fn_ref23_Fold := lp (tab es_ref23_Fold) ad_ref23_Fold Tryz.f101 0 sg_ref23_Fold
noncomputable def L_ref23_Fold_0 (n m : Nat) (a0 : List S_api_Tlv) (x6 : List S_api_Msg) (x7_0 : List UInt8) (x7_1 : List UInt8) (x7_2 : List UInt8) (x7_3 : List UInt8) (x7_4 : List UInt8) (x7_5 : List UInt8) (x7_6 : List UInt8) (x8 : Int) : Option (((List S_api_Msg) × S_api_Ctx × Int × Int × Unit) × Unit) :=
  fn_ref23_Fold n [.r, .r, .r, .l, .r, .l, .at m] [(0, .one (.sl 122 a0 .ro)), (3, .box [.str ([] : List UInt8), .str ([] : List UInt8), .str ([] : List UInt8), .str ([] : List UInt8), .str ([] : List UInt8), .str ([] : List UInt8), .str ([] : List UInt8)]), (6, .one (.sl 29 x6 .app)), (7, .box [.str x7_0, .str x7_1, .str x7_2, .str x7_3, .str x7_4, .str x7_5, .str x7_6]), (8, .one (.int .i64 x8))]
def sg_ref23_Parse : Sig τ := ⟨[(false, T_string)], [T_list_api_Msg, T_int, T_api_Errno]⟩
def ad_ref23_Parse : Adv := ⟨55, [[0], [0, 5, 6, 7], [0, 5, 6, 7, 18], [2, 3, 4], [0, 5, 6, 7, 8], [0, 5, 6, 7, 8, 28], [2, 3, 4], [6, 7, 8], [6, 7, 8, 42], [2, 3, 4], [6, 7, 9], [2, 3, 4]], [], []⟩
noncomputable def es_ref23_Parse : List (Ent U) := [e_ref18_Body, e_ref18_Split, e_ref18_Trailer, e_ref23_Fold]
noncomputable def g_ref23_Parse : (List UInt8) × Unit → Option (((List S_api_Msg) × Int × Int × Unit) × Unit) := runFn (U := U) Tryz.prog es_ref23_Parse ad_ref23_Parse 0 Tryz.f49 sg_ref23_Parse
noncomputable def e_ref23_Parse : Ent U := ⟨49, sg_ref23_Parse, g_ref23_Parse⟩
def sg_ref26_Parse : Sig τ := ⟨[(false, T_int), (false, T_string)], [T_list_api_Msg, T_int, T_api_Errno]⟩
def ad_ref26_Parse : Adv := ⟨36, [[0, 1], [1, 7], [1, 7, 8], [4, 5, 6], [1, 7, 15], [4, 5, 6], [1, 7, 22], [4, 5, 6], [1, 29], [4, 5, 6], [4, 5, 6]], [], []⟩
noncomputable def es_ref26_Parse : List (Ent U) := [e_ref10_Parse, e_ref12_Parse, e_ref17_Parse, e_ref23_Parse]
noncomputable def g_ref26_Parse : Int × (List UInt8) × Unit → Option (((List S_api_Msg) × Int × Int × Unit) × Unit) := runFn (U := U) Tryz.prog es_ref26_Parse ad_ref26_Parse 0 Tryz.f20 sg_ref26_Parse
noncomputable def e_ref26_Parse : Ent U := ⟨20, sg_ref26_Parse, g_ref26_Parse⟩
def sg_ref07_SameAll : Sig τ := ⟨[(false, T_list_api_Msg), (false, T_list_api_Msg)], [T_bool]⟩
def ad_ref07_SameAll : Adv := ⟨27, [[0, 1], [0, 1, 10], [4], [0, 1, 5], [0, 1, 5, 14], [0, 1, 5], [0, 1, 5, 26], [4], [4]], [], []⟩
noncomputable def es_ref07_SameAll : List (Ent U) := [e_ref07_Same]
noncomputable def h_ref07_SameAll (n : Nat) : (List S_api_Msg) × (List S_api_Msg) × Unit → Option ((Bool × Unit) × Unit) := runFn (U := U) Tryz.prog es_ref07_SameAll ad_ref07_SameAll n Tryz.f23 sg_ref07_SameAll
noncomputable def g_ref07_SameAll : (List S_api_Msg) × (List S_api_Msg) × Unit → Option ((Bool × Unit) × Unit) := h_ref07_SameAll fuel
noncomputable def e_ref07_SameAll : Ent U := ⟨23, sg_ref07_SameAll, g_ref07_SameAll⟩
noncomputable def fn_ref07_SameAll := lp (tab es_ref07_SameAll) ad_ref07_SameAll Tryz.f23 0 sg_ref07_SameAll
noncomputable def L_ref07_SameAll_0 (n m : Nat) (a0 : List S_api_Msg) (a1 : List S_api_Msg) (x5 : Int) : Option ((Bool × Unit) × Unit) :=
  fn_ref07_SameAll n [.r, .r, .l, .r, .l, .at m] [(0, .one (.sl 29 a0 .ro)), (1, .one (.sl 29 a1 .ro)), (5, .one (.int .i64 x5))]
def sg_law28_few : Sig τ := ⟨[(false, T_list_string)], [T_bool]⟩
def ad_law28_few : Adv := ⟨19, [[0], [0, 6], [2], [0, 3], [0, 3, 10], [0, 3], [0, 3, 18], [2], [2]], [], []⟩
noncomputable def es_law28_few : List (Ent U) := []
noncomputable def h_law28_few (n : Nat) : (List (List UInt8)) × Unit → Option ((Bool × Unit) × Unit) := runFn (U := U) Tryz.prog es_law28_few ad_law28_few n Tryz.f24 sg_law28_few
noncomputable def g_law28_few : (List (List UInt8)) × Unit → Option ((Bool × Unit) × Unit) := h_law28_few fuel
noncomputable def e_law28_few : Ent U := ⟨24, sg_law28_few, g_law28_few⟩
noncomputable def fn_law28_few := lp (tab es_law28_few) ad_law28_few Tryz.f24 0 sg_law28_few
noncomputable def L_law28_few_0 (n m : Nat) (a0 : List (List UInt8)) (x3 : Int) : Option ((Bool × Unit) × Unit) :=
  fn_law28_few n [.r, .r, .l, .r, .l, .at m] [(0, .one (.sl 9 a0 .ro)), (3, .one (.int .i64 x3))]
def sg_join_Join : Sig τ := ⟨[(false, T_int), (false, T_list_string)], [T_list_api_Msg, T_int, T_int, T_api_Errno]⟩
def ad_join_Join : Adv := ⟨44, [[0, 1], [0, 1, 18], [4, 5, 6, 7], [0, 1, 8], [0, 1, 8, 20, 21], [0, 1, 8, 20, 21, 22], [0, 1, 8, 9, 20, 21], [0, 1, 8, 9, 10, 11, 12, 20, 21], [0, 1, 8, 9, 10, 11, 12, 20, 21, 35], [4, 5, 6, 7], [0, 1, 8, 20, 21], [0, 1, 8, 20, 21], [4, 5, 6, 7]], [39], []⟩
noncomputable def es_join_Join : List (Ent U) := [e_suite_Parse]
noncomputable def h_join_Join (n : Nat) : Int × (List (List UInt8)) × Unit → Option (((List S_api_Msg) × Int × Int × Int × Unit) × Unit) := runFn (U := U) Tryz.prog es_join_Join ad_join_Join n Tryz.f26 sg_join_Join
noncomputable def g_join_Join : Int × (List (List UInt8)) × Unit → Option (((List S_api_Msg) × Int × Int × Int × Unit) × Unit) := h_join_Join fuel
noncomputable def e_join_Join : Ent U := ⟨26, sg_join_Join, g_join_Join⟩
noncomputable def fn_join_Join := lp (tab es_join_Join) ad_join_Join Tryz.f26 0 sg_join_Join
noncomputable def L_join_Join_0 (n m : Nat) (a0 : Int) (a1 : List (List UInt8)) (x8 : List S_api_Msg) (x21 : Int) : Option (((List S_api_Msg) × Int × Int × Int × Unit) × Unit) :=
  fn_join_Join n [.r, .r, .r, .l, .r, .l, .at m] [(0, .one (.int .i64 a0)), (1, .one (.sl 9 a1 .ro)), (8, .one (.sl 29 x8 .app)), (20, .one (.int .i64 (a1.length : Int))), (21, .one (.int .i64 x21))]
def sg_law28_awake : Sig τ := ⟨[], [T_bool]⟩
def ad_law28_awake : Adv := ⟨49, [[], [1, 4], [1, 4, 6, 7, 8], [0]], [], [999999]⟩
noncomputable def es_law28_awake : List (Ent U) := [e_join_Join]
noncomputable def g_law28_awake : Unit → Option ((Bool × Unit) × Unit) := runFn (U := U) Tryz.prog es_law28_awake ad_law28_awake 0 Tryz.f25 sg_law28_awake
noncomputable def e_law28_awake : Ent U := ⟨25, sg_law28_awake, g_law28_awake⟩
def sg_ref28_Join : Sig τ := ⟨[(false, T_int), (false, T_list_string)], [T_list_api_Msg, T_int, T_int, T_api_Errno]⟩
def ad_ref28_Join : Adv := ⟨44, [[0, 1], [0, 1, 18], [4, 5, 6, 7], [0, 1, 8], [0, 1, 8, 9], [0, 1, 8, 9, 22], [0, 1, 8, 9], [0, 1, 8, 9, 10, 11, 12], [0, 1, 8, 9, 10, 11, 12, 36], [4, 5, 6, 7], [0, 1, 8, 9], [4, 5, 6, 7]], [40], []⟩
noncomputable def es_ref28_Join : List (Ent U) := [e_ref26_Parse]
noncomputable def h_ref28_Join (n : Nat) : Int × (List (List UInt8)) × Unit → Option (((List S_api_Msg) × Int × Int × Int × Unit) × Unit) := runFn (U := U) Tryz.prog es_ref28_Join ad_ref28_Join n Tryz.f27 sg_ref28_Join
noncomputable def g_ref28_Join : Int × (List (List UInt8)) × Unit → Option (((List S_api_Msg) × Int × Int × Int × Unit) × Unit) := h_ref28_Join fuel
noncomputable def e_ref28_Join : Ent U := ⟨27, sg_ref28_Join, g_ref28_Join⟩
noncomputable def fn_ref28_Join := lp (tab es_ref28_Join) ad_ref28_Join Tryz.f27 0 sg_ref28_Join
noncomputable def L_ref28_Join_0 (n m : Nat) (a0 : Int) (a1 : List (List UInt8)) (x8 : List S_api_Msg) (x9 : Int) : Option (((List S_api_Msg) × Int × Int × Int × Unit) × Unit) :=
  fn_ref28_Join n [.r, .r, .r, .l, .r, .l, .at m] [(0, .one (.int .i64 a0)), (1, .one (.sl 9 a1 .ro)), (8, .one (.sl 29 x8 .app)), (9, .one (.int .i64 x9))]
def sg_law28_JoinTells : Sig τ := ⟨[(false, T_int), (false, T_list_string)], [T_bool]⟩
def ad_law28_JoinTells : Adv := ⟨54, [[0, 1], [0, 1, 15], [4], [0, 1, 5, 6, 7, 8], [5, 6, 7, 8, 9, 10, 11, 12], [4]], [], [999999]⟩
noncomputable def es_law28_JoinTells : List (Ent U) := [e_law28_few, e_law28_awake, e_join_Join, e_ref28_Join, e_ref07_SameAll]
noncomputable def g_law28_JoinTells : Int × (List (List UInt8)) × Unit → Option ((Bool × Unit) × Unit) := runFn (U := U) Tryz.prog es_law28_JoinTells ad_law28_JoinTells 0 Tryz.f4 sg_law28_JoinTells
noncomputable def e_law28_JoinTells : Ent U := ⟨4, sg_law28_JoinTells, g_law28_JoinTells⟩
end Go.VI
