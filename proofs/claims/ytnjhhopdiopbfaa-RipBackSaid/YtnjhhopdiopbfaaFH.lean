import Derived.Test.YtnjhhopdiopbfaaFTy
set_option linter.unusedVariables false
set_option linter.unusedSimpArgs false
set_option maxRecDepth 1000000
set_option maxHeartbeats 4000000
namespace Go.VI
open Go Go.Proofs
/-! ### octet_Zero -/
def sg_octet_Zero : Sig τ := ⟨[(false, T_string)], [T_bool]⟩
def ad_octet_Zero : Adv := ⟨15, [[0], [6, 7, 8], [6, 7, 8, 9], [4, 6, 7, 8], [6, 7, 8, 13], [2], [6, 7, 8], [2]], [], []⟩
noncomputable def es_octet_Zero : List (Ent U) := []
noncomputable def h_octet_Zero (n : Nat) : (List UInt8) × Unit → Option ((Bool × Unit) × Unit) := runFn (U := U) Try.prog es_octet_Zero ad_octet_Zero n Try.f29 sg_octet_Zero
noncomputable def g_octet_Zero : (List UInt8) × Unit → Option ((Bool × Unit) × Unit) := h_octet_Zero fuel
noncomputable def e_octet_Zero : Ent U := ⟨29, sg_octet_Zero, g_octet_Zero⟩
noncomputable def bd_octet_Zero : Code := match Try.f29.body with | some c => c | none => .skip
noncomputable def fn_octet_Zero : St U → Option ((Bool × Unit) × Unit) := finOf (U := U) Try.prog Try.f29 0 sg_octet_Zero
noncomputable def L_octet_Zero_0 (n m : Nat) (a0 : List UInt8) (x8 : Int) : Option ((Bool × Unit) × Unit) :=
  evAt Try.prog (tab es_octet_Zero) ad_octet_Zero n bd_octet_Zero [.r, .l, .r, .l, .at m] fn_octet_Zero (fun _ _ => none) fn_octet_Zero
    [(6, .one (.bs 5 a0 .app)), (7, .one (.int .i64 (a0.length : Int))), (8, .one (.int .i64 x8))]
/-! ### rip_head -/
def sg_rip_head : Sig τ := ⟨[(false, T_string)], [T_int, T_api_Errno]⟩
def ad_rip_head : Adv := ⟨49, [[0], [0, 4], [0, 4, 7], [2, 3], [0, 4, 11], [2, 3], [0, 4, 20], [2, 3], [4, 29], [2, 3], [4, 34], [2, 3], [4, 40], [2, 3], [44], [2, 3], [2, 3]], [], []⟩
noncomputable def es_rip_head : List (Ent U) := [e_octet_Zero]
noncomputable def g_rip_head : (List UInt8) × Unit → Option ((Int × Int × Unit) × Unit) := runFn (U := U) Try.prog es_rip_head ad_rip_head 0 Try.f16 sg_rip_head
noncomputable def e_rip_head : Ent U := ⟨16, sg_rip_head, g_rip_head⟩
/-! ### internal_stringslite_HasPrefix -/
def sg_internal_stringslite_HasPrefix : Sig τ := ⟨[(false, T_string), (false, T_string)], [T_bool]⟩
def ad_internal_stringslite_HasPrefix : Adv := ⟨18, [[0, 1], [4]], [], []⟩
noncomputable def es_internal_stringslite_HasPrefix : List (Ent U) := []
noncomputable def g_internal_stringslite_HasPrefix : (List UInt8) × (List UInt8) × Unit → Option ((Bool × Unit) × Unit) := runFn (U := U) Try.prog es_internal_stringslite_HasPrefix ad_internal_stringslite_HasPrefix 0 Try.f67 sg_internal_stringslite_HasPrefix
noncomputable def e_internal_stringslite_HasPrefix : Ent U := ⟨67, sg_internal_stringslite_HasPrefix, g_internal_stringslite_HasPrefix⟩
/-! ### internal_stringslite_CutPrefix -/
def sg_internal_stringslite_CutPrefix : Sig τ := ⟨[(false, T_string), (false, T_string)], [T_string, T_bool]⟩
def ad_internal_stringslite_CutPrefix : Adv := ⟨15, [[0, 1], [0, 1, 9], [4, 5], [4, 5]], [], []⟩
noncomputable def es_internal_stringslite_CutPrefix : List (Ent U) := [e_internal_stringslite_HasPrefix]
noncomputable def g_internal_stringslite_CutPrefix : (List UInt8) × (List UInt8) × Unit → Option (((List UInt8) × Bool × Unit) × Unit) := runFn (U := U) Try.prog es_internal_stringslite_CutPrefix ad_internal_stringslite_CutPrefix 0 Try.f59 sg_internal_stringslite_CutPrefix
noncomputable def e_internal_stringslite_CutPrefix : Ent U := ⟨59, sg_internal_stringslite_CutPrefix, g_internal_stringslite_CutPrefix⟩
/-! ### strings_CutPrefix -/
def sg_strings_CutPrefix : Sig τ := ⟨[(false, T_string), (false, T_string)], [T_string, T_bool]⟩
def ad_strings_CutPrefix : Adv := ⟨11, [[0, 1], [4, 5]], [], []⟩
noncomputable def es_strings_CutPrefix : List (Ent U) := [e_internal_stringslite_CutPrefix]
noncomputable def g_strings_CutPrefix : (List UInt8) × (List UInt8) × Unit → Option (((List UInt8) × Bool × Unit) × Unit) := runFn (U := U) Try.prog es_strings_CutPrefix ad_strings_CutPrefix 0 Try.f41 sg_strings_CutPrefix
noncomputable def e_strings_CutPrefix : Ent U := ⟨41, sg_strings_CutPrefix, g_strings_CutPrefix⟩
/-! ### auth_Get -/
def sg_auth_Get : Sig τ := ⟨[(false, T_string)], [T_string, T_bool]⟩
def ad_auth_Get : Adv := ⟨19, [[0], [4, 5], [4, 17], [2, 3], [2, 3]], [], []⟩
noncomputable def es_auth_Get : List (Ent U) := [e_strings_CutPrefix]
noncomputable def g_auth_Get : (List UInt8) × Unit → Option (((List UInt8) × Bool × Unit) × Unit) := runFn (U := U) Try.prog es_auth_Get ad_auth_Get 0 Try.f17 sg_auth_Get
noncomputable def e_auth_Get : Ent U := ⟨17, sg_auth_Get, g_auth_Get⟩
/-! ### cursor_New -/
def sg_cursor_New : Sig τ := ⟨[(false, T_string)], [T_api_Cur]⟩
def ad_cursor_New : Adv := ⟨7, [[0, 2], [2]], [], []⟩
noncomputable def es_cursor_New : List (Ent U) := []
noncomputable def g_cursor_New : (List UInt8) × Unit → Option ((S_api_Cur × Unit) × Unit) := runFn (U := U) Try.prog es_cursor_New ad_cursor_New 0 Try.f42 sg_cursor_New
noncomputable def e_cursor_New : Ent U := ⟨42, sg_cursor_New, g_cursor_New⟩
/-! ### cursor_step -/
def sg_cursor_step : Sig τ := ⟨[(false, T_api_Cur), (false, T_int)], [T_api_Cur, T_bool]⟩
def ad_cursor_step : Adv := ⟨29, [[1, 2, 4], [1, 2, 4, 20], [2, 4], [4, 5], [2, 4], [4, 5]], [], []⟩
noncomputable def es_cursor_step : List (Ent U) := []
noncomputable def g_cursor_step : S_api_Cur × Int × Unit → Option ((S_api_Cur × Bool × Unit) × Unit) := runFn (U := U) Try.prog es_cursor_step ad_cursor_step 0 Try.f68 sg_cursor_step
noncomputable def e_cursor_step : Ent U := ⟨68, sg_cursor_step, g_cursor_step⟩
/-! ### cursor_Num -/
def sg_cursor_Num : Sig τ := ⟨[(false, T_api_Cur), (false, T_int)], [T_int, T_api_Cur]⟩
def ad_cursor_Num : Adv := ⟨49, [[1, 2, 5], [1, 2, 5, 16], [2, 5], [4, 5], [2, 5, 6, 7], [2, 5, 6, 26], [4, 5], [2, 5, 6, 8], [5, 6, 8, 35, 36, 37], [5, 6, 8, 35, 36, 37, 38], [5, 6, 8, 10, 35, 36, 37], [5, 6, 8, 35, 36, 37], [5, 6, 8, 35, 36, 37], [4, 5]], [], []⟩
noncomputable def es_cursor_Num : List (Ent U) := [e_cursor_step]
noncomputable def h_cursor_Num (n : Nat) : S_api_Cur × Int × Unit → Option ((Int × S_api_Cur × Unit) × Unit) := runFn (U := U) Try.prog es_cursor_Num ad_cursor_Num n Try.f60 sg_cursor_Num
noncomputable def g_cursor_Num : S_api_Cur × Int × Unit → Option ((Int × S_api_Cur × Unit) × Unit) := h_cursor_Num fuel
noncomputable def e_cursor_Num : Ent U := ⟨60, sg_cursor_Num, g_cursor_Num⟩
noncomputable def bd_cursor_Num : Code := match Try.f60.body with | some c => c | none => .skip
noncomputable def fn_cursor_Num : St U → Option ((Int × S_api_Cur × Unit) × Unit) := finOf (U := U) Try.prog Try.f60 0 sg_cursor_Num
noncomputable def L_cursor_Num_0 (n m : Nat) (r1 : (S_api_Cur × Bool × Unit) × Unit) (x8 : Int) (x35 : List UInt8) (x36 : Int) (x37 : Int) : Option ((Int × S_api_Cur × Unit) × Unit) :=
  evAt Try.prog (tab es_cursor_Num) ad_cursor_Num n bd_cursor_Num [.r, .r, .r, .r, .r, .l, .r, .l, .at m] fn_cursor_Num (fun _ _ => none) fn_cursor_Num
    [(5, .box [.str ([] : List UInt8), .int .i64 0, .int .i64 0, .bool false]), (6, .box [.str r1.1.1.s, .int .i64 r1.1.1.at_, .int .i64 r1.1.1.end_, .bool r1.1.1.bad]), (8, .one (.int .i64 x8)), (35, .one (.bs 5 x35 .app)), (36, .one (.int .i64 x36)), (37, .one (.int .i64 x37))]
/-! ### entry_reader_num -/
def sg_entry_reader_num : Sig τ := ⟨[(true, T_entry_reader), (false, T_int)], [T_int]⟩
def ad_entry_reader_num : Adv := ⟨21, [[0, 1], [0, 5, 6], [5], [4]], [], []⟩
noncomputable def es_entry_reader_num : List (Ent U) := [e_cursor_Num]
noncomputable def g_entry_reader_num : S_entry_reader × Int × Unit → Option ((Int × Unit) × (S_entry_reader × Unit)) := runFn (U := U) Try.prog es_entry_reader_num ad_entry_reader_num 0 Try.f43 sg_entry_reader_num
noncomputable def e_entry_reader_num : Ent U := ⟨43, sg_entry_reader_num, g_entry_reader_num⟩
/-! ### cursor_Text -/
def sg_cursor_Text : Sig τ := ⟨[(false, T_api_Cur), (false, T_int)], [T_string, T_api_Cur]⟩
def ad_cursor_Text : Adv := ⟨25, [[1, 2, 5], [2, 5, 6, 7], [2, 5, 6, 15], [4, 5], [4, 5]], [], []⟩
noncomputable def es_cursor_Text : List (Ent U) := [e_cursor_step]
noncomputable def g_cursor_Text : S_api_Cur × Int × Unit → Option (((List UInt8) × S_api_Cur × Unit) × Unit) := runFn (U := U) Try.prog es_cursor_Text ad_cursor_Text 0 Try.f61 sg_cursor_Text
noncomputable def e_cursor_Text : Ent U := ⟨61, sg_cursor_Text, g_cursor_Text⟩
/-! ### entry_reader_four -/
def sg_entry_reader_four : Sig τ := ⟨[(true, T_entry_reader)], [T_string]⟩
def ad_entry_reader_four : Adv := ⟨18, [[0], [0, 3, 4], [3], [2]], [], []⟩
noncomputable def es_entry_reader_four : List (Ent U) := [e_cursor_Text]
noncomputable def g_entry_reader_four : S_entry_reader × Unit → Option (((List UInt8) × Unit) × (S_entry_reader × Unit)) := runFn (U := U) Try.prog es_entry_reader_four ad_entry_reader_four 0 Try.f44 sg_entry_reader_four
noncomputable def e_entry_reader_four : Ent U := ⟨44, sg_entry_reader_four, g_entry_reader_four⟩
/-! ### entry_Get -/
def sg_entry_Get : Sig τ := ⟨[(false, T_string)], [T_api_Entry, T_bool]⟩
def ad_entry_Get : Adv := ⟨33, [[0, 2], [0, 2, 8], [2, 3], [2, 4], [2, 4, 5], [2, 4, 5], [2, 4, 5], [2, 4, 5], [2, 4, 5], [2, 4, 5], [2, 5], [2, 3]], [], []⟩
noncomputable def es_entry_Get : List (Ent U) := [e_cursor_New, e_entry_reader_num, e_entry_reader_four]
noncomputable def g_entry_Get : (List UInt8) × Unit → Option ((S_api_Entry × Bool × Unit) × Unit) := runFn (U := U) Try.prog es_entry_Get ad_entry_Get 0 Try.f18 sg_entry_Get
noncomputable def e_entry_Get : Ent U := ⟨18, sg_entry_Get, g_entry_Get⟩
/-! ### msg_strip -/
def sg_msg_strip : Sig τ := ⟨[(false, T_api_Msg)], [T_msg_plain]⟩
def ad_msg_strip : Adv := ⟨50, [[1, 2], [2]], [], []⟩
noncomputable def es_msg_strip : List (Ent U) := []
noncomputable def g_msg_strip : S_api_Msg × Unit → Option ((S_msg_plain × Unit) × Unit) := runFn (U := U) Try.prog es_msg_strip ad_msg_strip 0 Try.f50 sg_msg_strip
noncomputable def e_msg_strip : Ent U := ⟨50, sg_msg_strip, g_msg_strip⟩
/-! ### msg_Bare -/
def sg_msg_Bare : Sig τ := ⟨[(false, T_api_Msg)], [T_bool]⟩
def ad_msg_Bare : Adv := ⟨116, [[1], [1, 3], [1, 3, 4, 5], [1, 3, 4, 5, 13], [2], [1, 3, 4, 5, 13, 14], [1, 3, 4, 5, 13, 14], [1, 3, 4], [1, 3, 4, 25], [1, 3, 4], [1, 3, 4, 5], [1, 3, 4, 5, 13, 33], [1, 3, 4, 5], [1, 3, 4, 5, 13, 42], [1, 3, 4, 5], [1, 3, 4, 5, 13, 51], [1, 3, 4, 5], [1, 3, 4, 5, 13, 54], [1, 3, 4, 5, 13, 56], [1, 3, 4, 5], [1, 3, 4, 5, 13, 60], [1, 3, 4, 5], [1, 3, 4, 5, 13, 63], [1, 3, 4, 5], [1, 3, 4, 5, 13, 68], [1, 3, 4, 5], [1, 3, 4, 5, 13, 74], [1, 3, 4, 5], [1, 3, 4, 5, 13, 84], [1, 3, 4, 5], [1, 3, 4, 5, 13, 89], [1, 3, 4, 5], [1, 3, 4, 97], [1, 3, 4], [1, 3, 4, 5], [2]], [], []⟩
noncomputable def es_msg_Bare : List (Ent U) := [e_msg_strip]
noncomputable def g_msg_Bare : S_api_Msg × Unit → Option ((Bool × Unit) × Unit) := runFn (U := U) Try.prog es_msg_Bare ad_msg_Bare 0 Try.f27 sg_msg_Bare
noncomputable def e_msg_Bare : Ent U := ⟨27, sg_msg_Bare, g_msg_Bare⟩
/-! ### rip_four -/
def sg_rip_four : Sig τ := ⟨[(false, T_string)], [T_bool]⟩
def ad_rip_four : Adv := ⟨6, [[0], [2]], [], []⟩
noncomputable def es_rip_four : List (Ent U) := []
noncomputable def g_rip_four : (List UInt8) × Unit → Option ((Bool × Unit) × Unit) := runFn (U := U) Try.prog es_rip_four ad_rip_four 0 Try.f28 sg_rip_four
noncomputable def e_rip_four : Ent U := ⟨28, sg_rip_four, g_rip_four⟩
/-! ### octet_Fits -/
def sg_octet_Fits : Sig τ := ⟨[(false, T_int), (false, T_int)], [T_bool]⟩
def ad_octet_Fits : Adv := ⟨23, [[0, 1], [4]], [], []⟩
noncomputable def es_octet_Fits : List (Ent U) := []
noncomputable def g_octet_Fits : Int × Int × Unit → Option ((Bool × Unit) × Unit) := runFn (U := U) Try.prog es_octet_Fits ad_octet_Fits 0 Try.f30 sg_octet_Fits
noncomputable def e_octet_Fits : Ent U := ⟨30, sg_octet_Fits, g_octet_Fits⟩
/-! ### bits_Keep -/
def sg_bits_Keep : Sig τ := ⟨[(false, T_string), (false, T_int)], [T_string]⟩
def ad_bits_Keep : Adv := ⟨40, [[0, 1], [0, 1, 11], [4], [0, 1, 5], [0, 1, 5, 17], [4], [0, 1, 5, 6], [0, 1, 5, 6], [5], [4]], [], []⟩
noncomputable def es_bits_Keep : List (Ent U) := []
noncomputable def g_bits_Keep : (List UInt8) × Int × Unit → Option (((List UInt8) × Unit) × Unit) := runFn (U := U) Try.prog es_bits_Keep ad_bits_Keep 0 Try.f63 sg_bits_Keep
noncomputable def e_bits_Keep : Ent U := ⟨63, sg_bits_Keep, g_bits_Keep⟩
/-! ### bits_Clean -/
def sg_bits_Clean : Sig τ := ⟨[(false, T_string), (false, T_int)], [T_bool]⟩
def ad_bits_Clean : Adv := ⟨10, [[0, 1], [4]], [], []⟩
noncomputable def es_bits_Clean : List (Ent U) := [e_bits_Keep]
noncomputable def g_bits_Clean : (List UInt8) × Int × Unit → Option ((Bool × Unit) × Unit) := runFn (U := U) Try.prog es_bits_Clean ad_bits_Clean 0 Try.f51 sg_bits_Clean
noncomputable def e_bits_Clean : Ent U := ⟨51, sg_bits_Clean, g_bits_Clean⟩
/-! ### prefix_Right -/
def sg_prefix_Right : Sig τ := ⟨[(false, T_string), (false, T_int)], [T_bool]⟩
def ad_prefix_Right : Adv := ⟨29, [[0, 1], [0, 1, 5], [4]], [], []⟩
noncomputable def es_prefix_Right : List (Ent U) := [e_bits_Clean]
noncomputable def g_prefix_Right : (List UInt8) × Int × Unit → Option ((Bool × Unit) × Unit) := runFn (U := U) Try.prog es_prefix_Right ad_prefix_Right 0 Try.f31 sg_prefix_Right
noncomputable def e_prefix_Right : Ent U := ⟨31, sg_prefix_Right, g_prefix_Right⟩
/-! ### rip_Right -/
def sg_rip_Right : Sig τ := ⟨[(false, T_api_Msg)], [T_bool]⟩
def ad_rip_Right : Adv := ⟨129, [[1], [1, 3], [2], [1, 24], [2], [1, 43], [2], [1, 58], [2], [1, 88], [2], [1, 102], [2], [2]], [], []⟩
noncomputable def es_rip_Right : List (Ent U) := [e_msg_Bare, e_rip_four, e_octet_Zero, e_octet_Fits, e_prefix_Right]
noncomputable def g_rip_Right : S_api_Msg × Unit → Option ((Bool × Unit) × Unit) := runFn (U := U) Try.prog es_rip_Right ad_rip_Right 0 Try.f12 sg_rip_Right
noncomputable def e_rip_Right : Ent U := ⟨12, sg_rip_Right, g_rip_Right⟩
/-! ### math_bits_Len32 -/
def sg_math_bits_Len32 : Sig τ := ⟨[(false, T_uint32)], [T_int]⟩
def ad_math_bits_Len32 : Adv := ⟨19, [[0, 2], [0, 2, 4], [0], [0, 2], [0, 2, 8], [0, 2], [0, 2], [2]], [], []⟩
noncomputable def es_math_bits_Len32 : List (Ent U) := []
noncomputable def g_math_bits_Len32 : Int × Unit → Option ((Int × Unit) × Unit) := runFn (U := U) Try.prog es_math_bits_Len32 ad_math_bits_Len32 0 Try.f69 sg_math_bits_Len32
noncomputable def e_math_bits_Len32 : Ent U := ⟨69, sg_math_bits_Len32, g_math_bits_Len32⟩
/-! ### math_bits_LeadingZeros32 -/
def sg_math_bits_LeadingZeros32 : Sig τ := ⟨[(false, T_uint32)], [T_int]⟩
def ad_math_bits_LeadingZeros32 : Adv := ⟨6, [[0], [2]], [], []⟩
noncomputable def es_math_bits_LeadingZeros32 : List (Ent U) := [e_math_bits_Len32]
noncomputable def g_math_bits_LeadingZeros32 : Int × Unit → Option ((Int × Unit) × Unit) := runFn (U := U) Try.prog es_math_bits_LeadingZeros32 ad_math_bits_LeadingZeros32 0 Try.f62 sg_math_bits_LeadingZeros32
noncomputable def e_math_bits_LeadingZeros32 : Ent U := ⟨62, sg_math_bits_LeadingZeros32, g_math_bits_LeadingZeros32⟩
/-! ### mask_Of -/
def sg_mask_Of : Sig τ := ⟨[(false, T_int)], [T_string, T_bool]⟩
def ad_mask_Of : Adv := ⟨28, [[0], [0, 10], [2, 3], [4], [2, 3]], [], []⟩
noncomputable def es_mask_Of : List (Ent U) := []
noncomputable def g_mask_Of : Int × Unit → Option (((List UInt8) × Bool × Unit) × Unit) := runFn (U := U) Try.prog es_mask_Of ad_mask_Of 0 Try.f54 sg_mask_Of
noncomputable def e_mask_Of : Ent U := ⟨54, sg_mask_Of, g_mask_Of⟩
/-! ### mask_Plen -/
def sg_mask_Plen : Sig τ := ⟨[(false, T_string)], [T_int, T_bool]⟩
def ad_mask_Plen : Adv := ⟨41, [[0], [0, 10], [2, 3], [0, 4], [0, 5], [0, 5, 6], [5, 39], [2, 3], [2, 3]], [], []⟩
noncomputable def es_mask_Plen : List (Ent U) := [e_math_bits_LeadingZeros32, e_mask_Of]
noncomputable def g_mask_Plen : (List UInt8) × Unit → Option ((Int × Bool × Unit) × Unit) := runFn (U := U) Try.prog es_mask_Plen ad_mask_Plen 0 Try.f45 sg_mask_Plen
noncomputable def e_mask_Plen : Ent U := ⟨45, sg_mask_Plen, g_mask_Plen⟩
/-! ### rip_reader_route -/
def sg_rip_reader_route : Sig τ := ⟨[(true, T_rip_reader), (false, T_api_Entry)], [T_api_Msg, T_api_Errno]⟩
def ad_rip_reader_route : Adv := ⟨107, [[0, 3, 4], [0, 3, 4, 6], [3, 4, 6, 7, 8], [3, 4, 6, 7, 46], [4, 5], [3, 4, 6], [0, 3, 4, 6, 50], [4, 6, 69], [4, 5], [4, 5], [0, 3, 4, 6, 72], [4, 5], [3, 4, 6, 77], [3, 4, 6], [3, 4, 6, 95], [4, 5], [4, 6, 104], [4, 5], [4, 5]], [], []⟩
noncomputable def es_rip_reader_route : List (Ent U) := [e_octet_Zero, e_rip_Right, e_mask_Plen, e_prefix_Right]
noncomputable def g_rip_reader_route : S_rip_reader × S_api_Entry × Unit → Option ((S_api_Msg × Int × Unit) × (S_rip_reader × Unit)) := runFn (U := U) Try.prog es_rip_reader_route ad_rip_reader_route 0 Try.f19 sg_rip_reader_route
noncomputable def e_rip_reader_route : Ent U := ⟨19, sg_rip_reader_route, g_rip_reader_route⟩
/-! ### rip_Parse -/
def sg_rip_Parse : Sig τ := ⟨[(false, T_string)], [T_list_api_Msg, T_int, T_api_Errno]⟩
def ad_rip_Parse : Adv := ⟨94, [[0], [0, 5, 6], [0, 5, 6, 22], [2, 3, 4], [0, 7], [0, 7, 8], [0, 7, 8, 9, 10], [0, 7, 8, 9, 46], [0, 7, 8], [0, 7, 8, 54], [2, 3, 4], [0, 7, 8], [0, 7, 8, 11], [0, 7, 8, 11, 67], [0, 7, 8, 11], [0, 7, 8, 11, 12], [0, 7, 8, 11, 14, 15], [0, 7, 8, 11, 14, 15, 86], [2, 3, 4], [0, 7, 8, 11], [2, 3, 4]], [89], []⟩
noncomputable def es_rip_Parse : List (Ent U) := [e_rip_head, e_auth_Get, e_entry_Get, e_rip_reader_route]
noncomputable def h_rip_Parse (n : Nat) : (List UInt8) × Unit → Option (((List S_api_Msg) × Int × Int × Unit) × Unit) := runFn (U := U) Try.prog es_rip_Parse ad_rip_Parse n Try.f8 sg_rip_Parse
noncomputable def g_rip_Parse : (List UInt8) × Unit → Option (((List S_api_Msg) × Int × Int × Unit) × Unit) := h_rip_Parse fuel
noncomputable def e_rip_Parse : Ent U := ⟨8, sg_rip_Parse, g_rip_Parse⟩
noncomputable def bd_rip_Parse : Code := match Try.f8.body with | some c => c | none => .skip
noncomputable def fn_rip_Parse : St U → Option (((List S_api_Msg) × Int × Int × Unit) × Unit) := finOf (U := U) Try.prog Try.f8 0 sg_rip_Parse
noncomputable def L_rip_Parse_0 (n m : Nat) (a0 : List UInt8) (x8 : Int) (x11 : List S_api_Msg) (x32_0 : Int) (x32_1 : Int) (x32_2 : List UInt8) (x32_3 : Bool) : Option (((List S_api_Msg) × Int × Int × Unit) × Unit) :=
  evAt Try.prog (tab es_rip_Parse) ad_rip_Parse n bd_rip_Parse [.r, .r, .r, .r, .r, .r, .r, .r, .l, .l, .at m] fn_rip_Parse (fun _ _ => none) fn_rip_Parse
    [(0, .one (.str a0)), (7, .one (.ref 32 0)), (8, .one (.int .i64 x8)), (11, .one (.sl 34 x11 .app)), (32, .box [.int .i64 x32_0, .int .i64 x32_1, .str x32_2, .bool x32_3])]
/-! ### auth_Put -/
def sg_auth_Put : Sig τ := ⟨[(false, T_string)], [T_string, T_bool]⟩
def ad_auth_Put : Adv := ⟨9, [[0], [0, 6], [2, 3], [2, 3]], [], []⟩
noncomputable def es_auth_Put : List (Ent U) := []
noncomputable def g_auth_Put : (List UInt8) × Unit → Option (((List UInt8) × Bool × Unit) × Unit) := runFn (U := U) Try.prog es_auth_Put ad_auth_Put 0 Try.f35 sg_auth_Put
noncomputable def e_auth_Put : Ent U := ⟨35, sg_auth_Put, g_auth_Put⟩
/-! ### rip_together -/
def sg_rip_together : Sig τ := ⟨[(false, T_api_Msg), (false, T_api_Msg)], [T_bool]⟩
def ad_rip_together : Adv := ⟨34, [[2, 3], [4]], [], []⟩
noncomputable def es_rip_together : List (Ent U) := []
noncomputable def g_rip_together : S_api_Msg × S_api_Msg × Unit → Option ((Bool × Unit) × Unit) := runFn (U := U) Try.prog es_rip_together ad_rip_together 0 Try.f36 sg_rip_together
noncomputable def e_rip_together : Ent U := ⟨36, sg_rip_together, g_rip_together⟩
/-! ### octet_Zeros -/
def sg_octet_Zeros : Sig τ := ⟨[(false, T_int)], [T_string]⟩
def ad_octet_Zeros : Adv := ⟨7, [[0], [2]], [], []⟩
noncomputable def es_octet_Zeros : List (Ent U) := []
noncomputable def g_octet_Zeros : Int × Unit → Option (((List UInt8) × Unit) × Unit) := runFn (U := U) Try.prog es_octet_Zeros ad_octet_Zeros 0 Try.f53 sg_octet_Zeros
noncomputable def e_octet_Zeros : Ent U := ⟨53, sg_octet_Zeros, g_octet_Zeros⟩
/-! ### octet_Put -/
def sg_octet_Put : Sig τ := ⟨[(false, T_int), (false, T_int)], [T_string, T_bool]⟩
def ad_octet_Put : Adv := ⟨29, [[0, 1], [0, 1, 11], [4, 5], [0, 1, 6], [0, 6, 7], [0, 6, 7, 17], [0, 6, 7], [0, 6, 7], [0, 6, 7], [4, 5]], [], []⟩
noncomputable def es_octet_Put : List (Ent U) := [e_octet_Fits]
noncomputable def h_octet_Put (n : Nat) : Int × Int × Unit → Option (((List UInt8) × Bool × Unit) × Unit) := runFn (U := U) Try.prog es_octet_Put ad_octet_Put n Try.f65 sg_octet_Put
noncomputable def g_octet_Put : Int × Int × Unit → Option (((List UInt8) × Bool × Unit) × Unit) := h_octet_Put fuel
noncomputable def e_octet_Put : Ent U := ⟨65, sg_octet_Put, g_octet_Put⟩
noncomputable def bd_octet_Put : Code := match Try.f65.body with | some c => c | none => .skip
noncomputable def fn_octet_Put : St U → Option (((List UInt8) × Bool × Unit) × Unit) := finOf (U := U) Try.prog Try.f65 0 sg_octet_Put
noncomputable def L_octet_Put_0 (n m : Nat) (x0 : Int) (x7 : Int) (x13 : List UInt8) : Option (((List UInt8) × Bool × Unit) × Unit) :=
  evAt Try.prog (tab es_octet_Put) ad_octet_Put n bd_octet_Put [.r, .r, .r, .l, .r, .l, .at m] fn_octet_Put (fun _ _ => none) fn_octet_Put
    [(0, .one (.int .i64 x0)), (6, .one (.sref 13)), (7, .one (.int .i64 x7)), (13, .bblk 5 x13 true)]
/-! ### entry_Put -/
def sg_entry_Put : Sig τ := ⟨[(false, T_api_Entry)], [T_string, T_bool]⟩
def ad_entry_Put : Adv := ⟨76, [[1], [1, 43], [2, 3], [1, 4], [1, 4, 6], [1, 4, 6, 8], [2, 3]], [], []⟩
noncomputable def es_entry_Put : List (Ent U) := [e_octet_Fits, e_octet_Put]
noncomputable def g_entry_Put : S_api_Entry × Unit → Option (((List UInt8) × Bool × Unit) × Unit) := runFn (U := U) Try.prog es_entry_Put ad_entry_Put 0 Try.f55 sg_entry_Put
noncomputable def e_entry_Put : Ent U := ⟨55, sg_entry_Put, g_entry_Put⟩
/-! ### rip_line -/
def sg_rip_line : Sig τ := ⟨[(false, T_api_Msg)], [T_string]⟩
def ad_rip_line : Adv := ⟨39, [[1], [1, 3], [1, 3, 25], [3], [4], [2]], [], []⟩
noncomputable def es_rip_line : List (Ent U) := [e_octet_Zeros, e_mask_Of, e_entry_Put]
noncomputable def g_rip_line : S_api_Msg × Unit → Option (((List UInt8) × Unit) × Unit) := runFn (U := U) Try.prog es_rip_line ad_rip_line 0 Try.f37 sg_rip_line
noncomputable def e_rip_line : Ent U := ⟨37, sg_rip_line, g_rip_line⟩
/-! ### rip_Encode -/
def sg_rip_Encode : Sig τ := ⟨[(false, T_list_api_Msg)], [T_string, T_int, T_api_Errno]⟩
def ad_rip_Encode : Adv := ⟨84, [[0], [0, 13, 14, 15], [0, 13, 14, 15, 16], [0, 5, 6, 13, 14, 15], [0, 5, 13, 14, 15, 22], [2, 3, 4], [0, 13, 14, 15], [0, 27], [2, 3, 4], [0, 7], [0, 7, 8], [0, 7, 8, 9, 10], [0, 7, 8, 9, 47], [0, 7, 8], [0, 7, 8], [0, 7, 8, 53, 54, 55], [0, 7, 8, 53, 54, 55, 56], [0, 7, 8, 11, 12, 53, 54, 55], [0, 7, 8, 11, 12, 53, 54, 55, 60], [2, 3, 4], [0, 7, 8, 11, 12, 53, 54, 55, 65], [2, 3, 4], [0, 7, 8, 53, 54, 55], [0, 7, 8, 53, 54, 55], [2, 3, 4]], [48, 77], []⟩
noncomputable def es_rip_Encode : List (Ent U) := [e_rip_Right, e_auth_Put, e_rip_together, e_rip_line]
noncomputable def h_rip_Encode (n : Nat) : (List S_api_Msg) × Unit → Option (((List UInt8) × Int × Int × Unit) × Unit) := runFn (U := U) Try.prog es_rip_Encode ad_rip_Encode n Try.f14 sg_rip_Encode
noncomputable def g_rip_Encode : (List S_api_Msg) × Unit → Option (((List UInt8) × Int × Int × Unit) × Unit) := h_rip_Encode fuel
noncomputable def e_rip_Encode : Ent U := ⟨14, sg_rip_Encode, g_rip_Encode⟩
noncomputable def bd_rip_Encode : Code := match Try.f14.body with | some c => c | none => .skip
noncomputable def fn_rip_Encode : St U → Option (((List UInt8) × Int × Int × Unit) × Unit) := finOf (U := U) Try.prog Try.f14 0 sg_rip_Encode
noncomputable def L_rip_Encode_0 (n m : Nat) (a0 : List S_api_Msg) (x15 : Int) : Option (((List UInt8) × Int × Int × Unit) × Unit) :=
  evAt Try.prog (tab es_rip_Encode) ad_rip_Encode n bd_rip_Encode [.r, .l, .r, .l, .at m] fn_rip_Encode (fun _ _ => none) fn_rip_Encode
    [(0, .one (.sl 34 a0 .ro)), (13, .one (.sl 34 a0 .ro)), (14, .one (.int .i64 (a0.length : Int))), (15, .one (.int .i64 x15))]
noncomputable def L_rip_Encode_1 (n m : Nat) (a0 : List S_api_Msg) (x7 : Int) (x8 : List UInt8) (x55 : Int) : Option (((List UInt8) × Int × Int × Unit) × Unit) :=
  evAt Try.prog (tab es_rip_Encode) ad_rip_Encode n bd_rip_Encode [.r, .r, .r, .r, .r, .r, .l, .r, .l, .at m] fn_rip_Encode (fun _ _ => none) fn_rip_Encode
    [(0, .one (.sl 34 a0 .ro)), (7, .one (.int .i64 x7)), (8, .one (.bs 5 x8 .app)), (53, .one (.sl 34 a0 .ro)), (54, .one (.int .i64 (a0.length : Int))), (55, .one (.int .i64 x55))]
/-! ### law10_awake -/
def sg_law10_awake : Sig τ := ⟨[], [T_bool]⟩
def ad_law10_awake : Adv := ⟨67, [[], [1], [1, 2, 3, 4], [1, 2, 3, 4, 5, 7], [0]], [], []⟩
noncomputable def es_law10_awake : List (Ent U) := [e_rip_Parse, e_rip_Encode, e_rip_Right]
noncomputable def g_law10_awake : Unit → Option ((Bool × Unit) × Unit) := runFn (U := U) Try.prog es_law10_awake ad_law10_awake 0 Try.f7 sg_law10_awake
noncomputable def e_law10_awake : Ent U := ⟨7, sg_law10_awake, g_law10_awake⟩
/-! ### ref10_head -/
def sg_ref10_head : Sig τ := ⟨[(false, T_string)], [T_int, T_api_Errno]⟩
def ad_ref10_head : Adv := ⟨55, [[0], [0, 4], [2, 3], [0, 10], [2, 3], [0, 19], [2, 3], [0, 28], [2, 3], [0, 37], [2, 3], [0, 45], [2, 3], [51], [2, 3], [2, 3]], [], []⟩
noncomputable def es_ref10_head : List (Ent U) := []
noncomputable def g_ref10_head : (List UInt8) × Unit → Option ((Int × Int × Unit) × Unit) := runFn (U := U) Try.prog es_ref10_head ad_ref10_head 0 Try.f20 sg_ref10_head
noncomputable def e_ref10_head : Ent U := ⟨20, sg_ref10_head, g_ref10_head⟩
/-! ### ref09_Is -/
def sg_ref09_Is : Sig τ := ⟨[(false, T_string)], [T_bool]⟩
def ad_ref09_Is : Adv := ⟨16, [[0], [2]], [], []⟩
noncomputable def es_ref09_Is : List (Ent U) := []
noncomputable def g_ref09_Is : (List UInt8) × Unit → Option ((Bool × Unit) × Unit) := runFn (U := U) Try.prog es_ref09_Is ad_ref09_Is 0 Try.f21 sg_ref09_Is
noncomputable def e_ref09_Is : Ent U := ⟨21, sg_ref09_Is, g_ref09_Is⟩
/-! ### ref09_Get -/
def sg_ref09_Get : Sig τ := ⟨[(false, T_string)], [T_string, T_bool]⟩
def ad_ref09_Get : Adv := ⟨9, [[0], [0, 6], [2, 3], [2, 3]], [], []⟩
noncomputable def es_ref09_Get : List (Ent U) := [e_ref09_Is]
noncomputable def g_ref09_Get : (List UInt8) × Unit → Option (((List UInt8) × Bool × Unit) × Unit) := runFn (U := U) Try.prog es_ref09_Get ad_ref09_Get 0 Try.f22 sg_ref09_Get
noncomputable def e_ref09_Get : Ent U := ⟨22, sg_ref09_Get, g_ref09_Get⟩
/-! ### ref08_Number -/
def sg_ref08_Number : Sig τ := ⟨[(false, T_string)], [T_int]⟩
def ad_ref08_Number : Adv := ⟨23, [[0], [0, 3], [0, 3, 4], [0, 3, 4, 12], [0, 3, 4], [0, 3, 4], [2]], [], []⟩
noncomputable def es_ref08_Number : List (Ent U) := []
noncomputable def h_ref08_Number (n : Nat) : (List UInt8) × Unit → Option ((Int × Unit) × Unit) := runFn (U := U) Try.prog es_ref08_Number ad_ref08_Number n Try.f46 sg_ref08_Number
noncomputable def g_ref08_Number : (List UInt8) × Unit → Option ((Int × Unit) × Unit) := h_ref08_Number fuel
noncomputable def e_ref08_Number : Ent U := ⟨46, sg_ref08_Number, g_ref08_Number⟩
noncomputable def bd_ref08_Number : Code := match Try.f46.body with | some c => c | none => .skip
noncomputable def fn_ref08_Number : St U → Option ((Int × Unit) × Unit) := finOf (U := U) Try.prog Try.f46 0 sg_ref08_Number
noncomputable def L_ref08_Number_0 (n m : Nat) (a0 : List UInt8) (x3 : Int) (x4 : Int) : Option ((Int × Unit) × Unit) :=
  evAt Try.prog (tab es_ref08_Number) ad_ref08_Number n bd_ref08_Number [.r, .r, .l, .r, .l, .at m] fn_ref08_Number (fun _ _ => none) fn_ref08_Number
    [(0, .one (.str a0)), (3, .one (.int .i64 x3)), (4, .one (.int .i64 x4))]
/-! ### ref08_Get -/
def sg_ref08_Get : Sig τ := ⟨[(false, T_string)], [T_api_Entry, T_bool]⟩
def ad_ref08_Get : Adv := ⟨24, [[0, 2], [0, 2, 6], [2, 3], [2, 3]], [], []⟩
noncomputable def es_ref08_Get : List (Ent U) := [e_ref08_Number]
noncomputable def g_ref08_Get : (List UInt8) × Unit → Option ((S_api_Entry × Bool × Unit) × Unit) := runFn (U := U) Try.prog es_ref08_Get ad_ref08_Get 0 Try.f23 sg_ref08_Get
noncomputable def e_ref08_Get : Ent U := ⟨23, sg_ref08_Get, g_ref08_Get⟩
/-! ### ref10_nought -/
def sg_ref10_nought : Sig τ := ⟨[], [T_string]⟩
def ad_ref10_nought : Adv := ⟨1, [[], [0]], [], []⟩
noncomputable def es_ref10_nought : List (Ent U) := []
noncomputable def g_ref10_nought : Unit → Option (((List UInt8) × Unit) × Unit) := runFn (U := U) Try.prog es_ref10_nought ad_ref10_nought 0 Try.f33 sg_ref10_nought
noncomputable def e_ref10_nought : Ent U := ⟨33, sg_ref10_nought, g_ref10_nought⟩
/-! ### ref07_dests -/
def sg_ref07_dests : Sig τ := ⟨[(false, T_list_api_Dest), (false, T_list_api_Dest)], [T_bool]⟩
def ad_ref07_dests : Adv := ⟨26, [[0, 1], [0, 1, 10], [4], [0, 1, 5], [0, 1, 5, 14], [0, 1, 5], [0, 1, 5, 25], [4], [4]], [], []⟩
noncomputable def es_ref07_dests : List (Ent U) := []
noncomputable def h_ref07_dests (n : Nat) : (List S_api_Dest) × (List S_api_Dest) × Unit → Option ((Bool × Unit) × Unit) := runFn (U := U) Try.prog es_ref07_dests ad_ref07_dests n Try.f48 sg_ref07_dests
noncomputable def g_ref07_dests : (List S_api_Dest) × (List S_api_Dest) × Unit → Option ((Bool × Unit) × Unit) := h_ref07_dests fuel
noncomputable def e_ref07_dests : Ent U := ⟨48, sg_ref07_dests, g_ref07_dests⟩
noncomputable def bd_ref07_dests : Code := match Try.f48.body with | some c => c | none => .skip
noncomputable def fn_ref07_dests : St U → Option ((Bool × Unit) × Unit) := finOf (U := U) Try.prog Try.f48 0 sg_ref07_dests
noncomputable def L_ref07_dests_0 (n m : Nat) (a0 : List S_api_Dest) (a1 : List S_api_Dest) (x5 : Int) : Option ((Bool × Unit) × Unit) :=
  evAt Try.prog (tab es_ref07_dests) ad_ref07_dests n bd_ref07_dests [.r, .r, .l, .r, .l, .at m] fn_ref07_dests (fun _ _ => none) fn_ref07_dests
    [(0, .one (.sl 75 a0 .ro)), (1, .one (.sl 75 a1 .ro)), (5, .one (.int .i64 x5))]
/-! ### ref07_subs -/
def sg_ref07_subs : Sig τ := ⟨[(false, T_list_api_Sub), (false, T_list_api_Sub)], [T_bool]⟩
def ad_ref07_subs : Adv := ⟨26, [[0, 1], [0, 1, 10], [4], [0, 1, 5], [0, 1, 5, 14], [0, 1, 5], [0, 1, 5, 25], [4], [4]], [], []⟩
noncomputable def es_ref07_subs : List (Ent U) := []
noncomputable def h_ref07_subs (n : Nat) : (List S_api_Sub) × (List S_api_Sub) × Unit → Option ((Bool × Unit) × Unit) := runFn (U := U) Try.prog es_ref07_subs ad_ref07_subs n Try.f49 sg_ref07_subs
noncomputable def g_ref07_subs : (List S_api_Sub) × (List S_api_Sub) × Unit → Option ((Bool × Unit) × Unit) := h_ref07_subs fuel
noncomputable def e_ref07_subs : Ent U := ⟨49, sg_ref07_subs, g_ref07_subs⟩
noncomputable def bd_ref07_subs : Code := match Try.f49.body with | some c => c | none => .skip
noncomputable def fn_ref07_subs : St U → Option ((Bool × Unit) × Unit) := finOf (U := U) Try.prog Try.f49 0 sg_ref07_subs
noncomputable def L_ref07_subs_0 (n m : Nat) (a0 : List S_api_Sub) (a1 : List S_api_Sub) (x5 : Int) : Option ((Bool × Unit) × Unit) :=
  evAt Try.prog (tab es_ref07_subs) ad_ref07_subs n bd_ref07_subs [.r, .r, .l, .r, .l, .at m] fn_ref07_subs (fun _ _ => none) fn_ref07_subs
    [(0, .one (.sl 77 a0 .ro)), (1, .one (.sl 77 a1 .ro)), (5, .one (.int .i64 x5))]
/-! ### ref07_Same -/
def sg_ref07_Same : Sig τ := ⟨[(false, T_api_Msg), (false, T_api_Msg)], [T_bool]⟩
def ad_ref07_Same : Adv := ⟨174, [[2, 3], [2, 3, 79], [4], [2, 3, 161], [4], [4]], [], []⟩
noncomputable def es_ref07_Same : List (Ent U) := [e_ref07_dests, e_ref07_subs]
noncomputable def g_ref07_Same : S_api_Msg × S_api_Msg × Unit → Option ((Bool × Unit) × Unit) := runFn (U := U) Try.prog es_ref07_Same ad_ref07_Same 0 Try.f25 sg_ref07_Same
noncomputable def e_ref07_Same : Ent U := ⟨25, sg_ref07_Same, g_ref07_Same⟩
/-! ### ref07_Bare -/
def sg_ref07_Bare : Sig τ := ⟨[(false, T_api_Msg)], [T_bool]⟩
def ad_ref07_Bare : Adv := ⟨214, [[1], [1, 3], [1, 3, 10], [2], [1, 3, 10, 11], [1, 3], [1, 3, 10, 34], [1, 3], [1, 3, 10, 51], [1, 3], [1, 3, 10, 74], [1, 3], [1, 3, 10, 97], [1, 3], [1, 3, 10, 105], [1, 3, 10, 107], [1, 3], [1, 3, 10, 115], [1, 3], [1, 3, 10, 120], [1, 3], [1, 3, 10, 131], [1, 3], [1, 3, 10, 145], [1, 3], [1, 3, 10, 171], [1, 3], [1, 3, 10, 182], [1, 3], [1, 3, 202], [1, 3], [2]], [], []⟩
noncomputable def es_ref07_Bare : List (Ent U) := [e_ref07_Same]
noncomputable def g_ref07_Bare : S_api_Msg × Unit → Option ((Bool × Unit) × Unit) := runFn (U := U) Try.prog es_ref07_Bare ad_ref07_Bare 0 Try.f32 sg_ref07_Bare
noncomputable def e_ref07_Bare : Ent U := ⟨32, sg_ref07_Bare, g_ref07_Bare⟩
/-! ### ref03_Bit -/
def sg_ref03_Bit : Sig τ := ⟨[(false, T_string), (false, T_int)], [T_bool]⟩
def ad_ref03_Bit : Adv := ⟨28, [[0, 1], [4]], [], []⟩
noncomputable def es_ref03_Bit : List (Ent U) := []
noncomputable def g_ref03_Bit : (List UInt8) × Int × Unit → Option ((Bool × Unit) × Unit) := runFn (U := U) Try.prog es_ref03_Bit ad_ref03_Bit 0 Try.f70 sg_ref03_Bit
noncomputable def e_ref03_Bit : Ent U := ⟨70, sg_ref03_Bit, g_ref03_Bit⟩
/-! ### ref03_Keep -/
def sg_ref03_Keep : Sig τ := ⟨[(false, T_string), (false, T_int)], [T_string]⟩
def ad_ref03_Keep : Adv := ⟨42, [[0, 1], [0, 1, 5], [0, 1, 5, 6], [0, 1, 5, 6, 19], [0, 1, 5, 6], [0, 1, 5, 6, 24], [0, 1, 5, 6], [4]], [], []⟩
noncomputable def es_ref03_Keep : List (Ent U) := [e_ref03_Bit]
noncomputable def h_ref03_Keep (n : Nat) : (List UInt8) × Int × Unit → Option (((List UInt8) × Unit) × Unit) := runFn (U := U) Try.prog es_ref03_Keep ad_ref03_Keep n Try.f64 sg_ref03_Keep
noncomputable def g_ref03_Keep : (List UInt8) × Int × Unit → Option (((List UInt8) × Unit) × Unit) := h_ref03_Keep fuel
noncomputable def e_ref03_Keep : Ent U := ⟨64, sg_ref03_Keep, g_ref03_Keep⟩
noncomputable def bd_ref03_Keep : Code := match Try.f64.body with | some c => c | none => .skip
noncomputable def fn_ref03_Keep : St U → Option (((List UInt8) × Unit) × Unit) := finOf (U := U) Try.prog Try.f64 0 sg_ref03_Keep
noncomputable def L_ref03_Keep_0 (n m : Nat) (a0 : List UInt8) (a1 : Int) (x6 : Int) (x9 : List UInt8) : Option (((List UInt8) × Unit) × Unit) :=
  evAt Try.prog (tab es_ref03_Keep) ad_ref03_Keep n bd_ref03_Keep [.r, .r, .l, .r, .l, .at m] fn_ref03_Keep (fun _ _ => none) fn_ref03_Keep
    [(0, .one (.str a0)), (1, .one (.int .i64 a1)), (5, .one (.sref 9)), (6, .one (.int .i64 x6)), (9, .bblk 5 x9 true)]
/-! ### ref03_Clean -/
def sg_ref03_Clean : Sig τ := ⟨[(false, T_string), (false, T_int)], [T_bool]⟩
def ad_ref03_Clean : Adv := ⟨10, [[0, 1], [4]], [], []⟩
noncomputable def es_ref03_Clean : List (Ent U) := [e_ref03_Keep]
noncomputable def g_ref03_Clean : (List UInt8) × Int × Unit → Option ((Bool × Unit) × Unit) := runFn (U := U) Try.prog es_ref03_Clean ad_ref03_Clean 0 Try.f52 sg_ref03_Clean
noncomputable def e_ref03_Clean : Ent U := ⟨52, sg_ref03_Clean, g_ref03_Clean⟩
/-! ### ref04_Right -/
def sg_ref04_Right : Sig τ := ⟨[(false, T_string), (false, T_int)], [T_bool]⟩
def ad_ref04_Right : Adv := ⟨29, [[0, 1], [4]], [], []⟩
noncomputable def es_ref04_Right : List (Ent U) := [e_ref03_Clean]
noncomputable def g_ref04_Right : (List UInt8) × Int × Unit → Option ((Bool × Unit) × Unit) := runFn (U := U) Try.prog es_ref04_Right ad_ref04_Right 0 Try.f34 sg_ref04_Right
noncomputable def e_ref04_Right : Ent U := ⟨34, sg_ref04_Right, g_ref04_Right⟩
/-! ### ref10_Right -/
def sg_ref10_Right : Sig τ := ⟨[(false, T_api_Msg)], [T_bool]⟩
def ad_ref10_Right : Adv := ⟨135, [[1], [1, 42], [2], [1, 56], [2], [1, 59], [2], [1, 102], [2], [1, 105], [2], [2]], [], []⟩
noncomputable def es_ref10_Right : List (Ent U) := [e_ref07_Bare, e_ref10_nought, e_ref04_Right]
noncomputable def g_ref10_Right : S_api_Msg × Unit → Option ((Bool × Unit) × Unit) := runFn (U := U) Try.prog es_ref10_Right ad_ref10_Right 0 Try.f13 sg_ref10_Right
noncomputable def e_ref10_Right : Ent U := ⟨13, sg_ref10_Right, g_ref10_Right⟩
/-! ### ref05_Of -/
def sg_ref05_Of : Sig τ := ⟨[(false, T_int)], [T_string, T_bool]⟩
def ad_ref05_Of : Adv := ⟨12, [[0], [0, 9], [2, 3], [2, 3]], [], []⟩
noncomputable def es_ref05_Of : List (Ent U) := [e_ref03_Keep]
noncomputable def g_ref05_Of : Int × Unit → Option (((List UInt8) × Bool × Unit) × Unit) := runFn (U := U) Try.prog es_ref05_Of ad_ref05_Of 0 Try.f57 sg_ref05_Of
noncomputable def e_ref05_Of : Ent U := ⟨57, sg_ref05_Of, g_ref05_Of⟩
/-! ### ref05_Plen -/
def sg_ref05_Plen : Sig τ := ⟨[(false, T_string)], [T_int, T_bool]⟩
def ad_ref05_Plen : Adv := ⟨20, [[0], [0, 4], [0, 4, 8], [0, 4], [0, 4, 5], [0, 4, 18], [2, 3], [2, 3]], [], []⟩
noncomputable def es_ref05_Plen : List (Ent U) := [e_ref05_Of]
noncomputable def h_ref05_Plen (n : Nat) : (List UInt8) × Unit → Option ((Int × Bool × Unit) × Unit) := runFn (U := U) Try.prog es_ref05_Plen ad_ref05_Plen n Try.f47 sg_ref05_Plen
noncomputable def g_ref05_Plen : (List UInt8) × Unit → Option ((Int × Bool × Unit) × Unit) := h_ref05_Plen fuel
noncomputable def e_ref05_Plen : Ent U := ⟨47, sg_ref05_Plen, g_ref05_Plen⟩
noncomputable def bd_ref05_Plen : Code := match Try.f47.body with | some c => c | none => .skip
noncomputable def fn_ref05_Plen : St U → Option ((Int × Bool × Unit) × Unit) := finOf (U := U) Try.prog Try.f47 0 sg_ref05_Plen
noncomputable def L_ref05_Plen_0 (n m : Nat) (a0 : List UInt8) (x4 : Int) : Option ((Int × Bool × Unit) × Unit) :=
  evAt Try.prog (tab es_ref05_Plen) ad_ref05_Plen n bd_ref05_Plen [.r, .l, .r, .l, .at m] fn_ref05_Plen (fun _ _ => none) fn_ref05_Plen
    [(0, .one (.str a0)), (4, .one (.int .i64 x4))]
/-! ### ref10_route -/
def sg_ref10_route : Sig τ := ⟨[(false, T_api_Entry), (false, T_int), (false, T_int), (false, T_string), (false, T_bool)], [T_api_Msg, T_api_Errno]⟩
def ad_ref10_route : Adv := ⟨98, [[1, 2, 3, 4, 5, 10], [2, 4, 5, 10, 12], [2, 4, 5, 10, 12, 31], [10, 12, 44], [10, 11], [10, 11], [2, 5, 10, 12, 49], [10, 11], [5, 10, 12, 52], [5, 10, 12], [5, 10, 12, 68], [10, 11], [5, 10, 12, 13, 14], [5, 10, 12, 13, 14], [5, 10, 12, 86], [10, 11], [10, 12, 95], [10, 11], [10, 11]], [], []⟩
noncomputable def es_ref10_route : List (Ent U) := [e_ref10_nought, e_ref10_Right, e_ref05_Plen, e_ref04_Right]
noncomputable def g_ref10_route : S_api_Entry × Int × Int × (List UInt8) × Bool × Unit → Option ((S_api_Msg × Int × Unit) × Unit) := runFn (U := U) Try.prog es_ref10_route ad_ref10_route 0 Try.f24 sg_ref10_route
noncomputable def e_ref10_route : Ent U := ⟨24, sg_ref10_route, g_ref10_route⟩
/-! ### ref10_Parse -/
def sg_ref10_Parse : Sig τ := ⟨[(false, T_string)], [T_list_api_Msg, T_int, T_api_Errno]⟩
def ad_ref10_Parse : Adv := ⟨82, [[0], [0, 5, 6], [0, 5, 6, 20], [2, 3, 4], [0, 5, 7], [0, 5, 7, 30], [0, 7], [0, 5, 7], [0, 5, 7, 39], [2, 3, 4], [0, 5, 7, 8], [0, 5, 7, 8, 9], [0, 5, 7, 8, 9, 44], [0, 5, 7, 8, 9], [0, 5, 7, 8, 9, 10], [0, 5, 7, 8, 9, 12, 13], [0, 5, 7, 8, 9, 12, 13, 74], [2, 3, 4], [0, 5, 7, 8, 9], [2, 3, 4]], [77], []⟩
noncomputable def es_ref10_Parse : List (Ent U) := [e_ref10_head, e_ref09_Is, e_ref09_Get, e_ref08_Get, e_ref10_route]
noncomputable def h_ref10_Parse (n : Nat) : (List UInt8) × Unit → Option (((List S_api_Msg) × Int × Int × Unit) × Unit) := runFn (U := U) Try.prog es_ref10_Parse ad_ref10_Parse n Try.f9 sg_ref10_Parse
noncomputable def g_ref10_Parse : (List UInt8) × Unit → Option (((List S_api_Msg) × Int × Int × Unit) × Unit) := h_ref10_Parse fuel
noncomputable def e_ref10_Parse : Ent U := ⟨9, sg_ref10_Parse, g_ref10_Parse⟩
noncomputable def bd_ref10_Parse : Code := match Try.f9.body with | some c => c | none => .skip
noncomputable def fn_ref10_Parse : St U → Option (((List S_api_Msg) × Int × Int × Unit) × Unit) := finOf (U := U) Try.prog Try.f9 0 sg_ref10_Parse
noncomputable def L_ref10_Parse_0 (n m : Nat) (a0 : List UInt8) (x5 : Int) (x7 : List UInt8) (x8 : List S_api_Msg) (x9 : Int) : Option (((List S_api_Msg) × Int × Int × Unit) × Unit) :=
  evAt Try.prog (tab es_ref10_Parse) ad_ref10_Parse n bd_ref10_Parse [.r, .r, .r, .r, .r, .r, .l, .r, .l, .at m] fn_ref10_Parse (fun _ _ => none) fn_ref10_Parse
    [(0, .one (.str a0)), (5, .one (.int .i64 x5)), (7, .one (.str x7)), (8, .one (.sl 34 x8 .app)), (9, .one (.int .i64 x9))]
/-! ### ref07_SameAll -/
def sg_ref07_SameAll : Sig τ := ⟨[(false, T_list_api_Msg), (false, T_list_api_Msg)], [T_bool]⟩
def ad_ref07_SameAll : Adv := ⟨27, [[0, 1], [0, 1, 10], [4], [0, 1, 5], [0, 1, 5, 14], [0, 1, 5], [0, 1, 5, 26], [4], [4]], [], []⟩
noncomputable def es_ref07_SameAll : List (Ent U) := [e_ref07_Same]
noncomputable def h_ref07_SameAll (n : Nat) : (List S_api_Msg) × (List S_api_Msg) × Unit → Option ((Bool × Unit) × Unit) := runFn (U := U) Try.prog es_ref07_SameAll ad_ref07_SameAll n Try.f10 sg_ref07_SameAll
noncomputable def g_ref07_SameAll : (List S_api_Msg) × (List S_api_Msg) × Unit → Option ((Bool × Unit) × Unit) := h_ref07_SameAll fuel
noncomputable def e_ref07_SameAll : Ent U := ⟨10, sg_ref07_SameAll, g_ref07_SameAll⟩
noncomputable def bd_ref07_SameAll : Code := match Try.f10.body with | some c => c | none => .skip
noncomputable def fn_ref07_SameAll : St U → Option ((Bool × Unit) × Unit) := finOf (U := U) Try.prog Try.f10 0 sg_ref07_SameAll
noncomputable def L_ref07_SameAll_0 (n m : Nat) (a0 : List S_api_Msg) (a1 : List S_api_Msg) (x5 : Int) : Option ((Bool × Unit) × Unit) :=
  evAt Try.prog (tab es_ref07_SameAll) ad_ref07_SameAll n bd_ref07_SameAll [.r, .r, .l, .r, .l, .at m] fn_ref07_SameAll (fun _ _ => none) fn_ref07_SameAll
    [(0, .one (.sl 34 a0 .ro)), (1, .one (.sl 34 a1 .ro)), (5, .one (.int .i64 x5))]
/-! ### law10_RipParses -/
def sg_law10_RipParses : Sig τ := ⟨[(false, T_string)], [T_bool]⟩
def ad_law10_RipParses : Adv := ⟨41, [[0], [0, 11], [2], [0, 3, 4, 5], [3, 4, 5, 6, 7, 8], [2]], [], []⟩
noncomputable def es_law10_RipParses : List (Ent U) := [e_law10_awake, e_rip_Parse, e_ref10_Parse, e_ref07_SameAll]
noncomputable def g_law10_RipParses : (List UInt8) × Unit → Option ((Bool × Unit) × Unit) := runFn (U := U) Try.prog es_law10_RipParses ad_law10_RipParses 0 Try.f3 sg_law10_RipParses
noncomputable def e_law10_RipParses : Ent U := ⟨3, sg_law10_RipParses, g_law10_RipParses⟩
/-! ### ref07_Few -/
def sg_ref07_Few : Sig τ := ⟨[(false, T_api_Msg)], [T_bool]⟩
def ad_ref07_Few : Adv := ⟨81, [[1], [1, 50], [2], [1, 3], [1, 3, 55], [1, 3], [1, 3, 65], [2], [1, 4], [1, 4, 70], [1, 4], [1, 4, 80], [2], [2]], [], []⟩
noncomputable def es_ref07_Few : List (Ent U) := []
noncomputable def h_ref07_Few (n : Nat) : S_api_Msg × Unit → Option ((Bool × Unit) × Unit) := runFn (U := U) Try.prog es_ref07_Few ad_ref07_Few n Try.f26 sg_ref07_Few
noncomputable def g_ref07_Few : S_api_Msg × Unit → Option ((Bool × Unit) × Unit) := h_ref07_Few fuel
noncomputable def e_ref07_Few : Ent U := ⟨26, sg_ref07_Few, g_ref07_Few⟩
noncomputable def bd_ref07_Few : Code := match Try.f26.body with | some c => c | none => .skip
noncomputable def fn_ref07_Few : St U → Option ((Bool × Unit) × Unit) := finOf (U := U) Try.prog Try.f26 0 sg_ref07_Few
noncomputable def L_ref07_Few_0 (n m : Nat) (a0 : S_api_Msg) (x3 : Int) : Option ((Bool × Unit) × Unit) :=
  evAt Try.prog (tab es_ref07_Few) ad_ref07_Few n bd_ref07_Few [.r, .r, .l, .r, .l, .at m] fn_ref07_Few (fun _ _ => none) fn_ref07_Few
    [(1, .box [.int .i64 a0.kind, .int .i64 a0.cmd, .int .i64 a0.ver, .str a0.auth, .int .i64 a0.family, .int .i64 a0.ae, .str a0.prefix_, .int .i64 a0.plen, .int .i64 a0.tag, .str a0.next, .int .i64 a0.metric, .str a0.id, .int .i64 a0.seq, .int .i64 a0.seq2, .int .i64 a0.interval, .int .i64 a0.flags, .int .i64 a0.hops, .int .i64 a0.nonce, .int .i64 a0.cost, .str a0.addr, .str a0.orig, .sl 75 a0.list .ro, .int .i64 a0.type_, .str a0.data, .sl 77 a0.subs .ro]), (3, .one (.int .i64 x3))]
noncomputable def L_ref07_Few_1 (n m : Nat) (a0 : S_api_Msg) (x4 : Int) : Option ((Bool × Unit) × Unit) :=
  evAt Try.prog (tab es_ref07_Few) ad_ref07_Few n bd_ref07_Few [.r, .r, .r, .l, .r, .l, .at m] fn_ref07_Few (fun _ _ => none) fn_ref07_Few
    [(1, .box [.int .i64 a0.kind, .int .i64 a0.cmd, .int .i64 a0.ver, .str a0.auth, .int .i64 a0.family, .int .i64 a0.ae, .str a0.prefix_, .int .i64 a0.plen, .int .i64 a0.tag, .str a0.next, .int .i64 a0.metric, .str a0.id, .int .i64 a0.seq, .int .i64 a0.seq2, .int .i64 a0.interval, .int .i64 a0.flags, .int .i64 a0.hops, .int .i64 a0.nonce, .int .i64 a0.cost, .str a0.addr, .str a0.orig, .sl 75 a0.list .ro, .int .i64 a0.type_, .str a0.data, .sl 77 a0.subs .ro]), (4, .one (.int .i64 x4))]
/-! ### ref07_FewAll -/
def sg_ref07_FewAll : Sig τ := ⟨[(false, T_list_api_Msg), (false, T_int)], [T_bool]⟩
def ad_ref07_FewAll : Adv := ⟨22, [[0, 1], [0, 9], [4], [0, 5], [0, 5, 13], [0, 5], [0, 5, 21], [4], [4]], [], []⟩
noncomputable def es_ref07_FewAll : List (Ent U) := [e_ref07_Few]
noncomputable def h_ref07_FewAll (n : Nat) : (List S_api_Msg) × Int × Unit → Option ((Bool × Unit) × Unit) := runFn (U := U) Try.prog es_ref07_FewAll ad_ref07_FewAll n Try.f11 sg_ref07_FewAll
noncomputable def g_ref07_FewAll : (List S_api_Msg) × Int × Unit → Option ((Bool × Unit) × Unit) := h_ref07_FewAll fuel
noncomputable def e_ref07_FewAll : Ent U := ⟨11, sg_ref07_FewAll, g_ref07_FewAll⟩
noncomputable def bd_ref07_FewAll : Code := match Try.f11.body with | some c => c | none => .skip
noncomputable def fn_ref07_FewAll : St U → Option ((Bool × Unit) × Unit) := finOf (U := U) Try.prog Try.f11 0 sg_ref07_FewAll
noncomputable def L_ref07_FewAll_0 (n m : Nat) (a0 : List S_api_Msg) (x5 : Int) : Option ((Bool × Unit) × Unit) :=
  evAt Try.prog (tab es_ref07_FewAll) ad_ref07_FewAll n bd_ref07_FewAll [.r, .r, .l, .r, .l, .at m] fn_ref07_FewAll (fun _ _ => none) fn_ref07_FewAll
    [(0, .one (.sl 34 a0 .ro)), (5, .one (.int .i64 x5))]
/-! ### ref02_Fits -/
def sg_ref02_Fits : Sig τ := ⟨[(false, T_int), (false, T_int)], [T_bool]⟩
def ad_ref02_Fits : Adv := ⟨27, [[0, 1], [0, 1, 16], [4], [0, 1, 5], [0, 1, 5, 6], [0, 1, 5, 6, 19], [0, 1, 5, 6], [0, 1, 5, 6], [4]], [], []⟩
noncomputable def es_ref02_Fits : List (Ent U) := []
noncomputable def h_ref02_Fits (n : Nat) : Int × Int × Unit → Option ((Bool × Unit) × Unit) := runFn (U := U) Try.prog es_ref02_Fits ad_ref02_Fits n Try.f66 sg_ref02_Fits
noncomputable def g_ref02_Fits : Int × Int × Unit → Option ((Bool × Unit) × Unit) := h_ref02_Fits fuel
noncomputable def e_ref02_Fits : Ent U := ⟨66, sg_ref02_Fits, g_ref02_Fits⟩
noncomputable def bd_ref02_Fits : Code := match Try.f66.body with | some c => c | none => .skip
noncomputable def fn_ref02_Fits : St U → Option ((Bool × Unit) × Unit) := finOf (U := U) Try.prog Try.f66 0 sg_ref02_Fits
noncomputable def L_ref02_Fits_0 (n m : Nat) (a0 : Int) (a1 : Int) (x5 : Int) (x6 : Int) : Option ((Bool × Unit) × Unit) :=
  evAt Try.prog (tab es_ref02_Fits) ad_ref02_Fits n bd_ref02_Fits [.r, .r, .r, .l, .r, .l, .at m] fn_ref02_Fits (fun _ _ => none) fn_ref02_Fits
    [(0, .one (.int .i64 a0)), (1, .one (.int .i64 a1)), (5, .one (.int .i64 x5)), (6, .one (.int .i64 x6))]
/-! ### ref02_Put -/
def sg_ref02_Put : Sig τ := ⟨[(false, T_int), (false, T_int)], [T_string, T_bool]⟩
def ad_ref02_Put : Adv := ⟨27, [[0, 1], [0, 1, 11], [4, 5], [0, 1, 6], [0, 1, 6, 7], [0, 1, 6, 7, 14], [0, 1, 6, 7], [0, 1, 6, 7], [0, 1, 6, 7], [4, 5]], [], []⟩
noncomputable def es_ref02_Put : List (Ent U) := [e_ref02_Fits]
noncomputable def h_ref02_Put (n : Nat) : Int × Int × Unit → Option (((List UInt8) × Bool × Unit) × Unit) := runFn (U := U) Try.prog es_ref02_Put ad_ref02_Put n Try.f56 sg_ref02_Put
noncomputable def g_ref02_Put : Int × Int × Unit → Option (((List UInt8) × Bool × Unit) × Unit) := h_ref02_Put fuel
noncomputable def e_ref02_Put : Ent U := ⟨56, sg_ref02_Put, g_ref02_Put⟩
noncomputable def bd_ref02_Put : Code := match Try.f56.body with | some c => c | none => .skip
noncomputable def fn_ref02_Put : St U → Option (((List UInt8) × Bool × Unit) × Unit) := finOf (U := U) Try.prog Try.f56 0 sg_ref02_Put
noncomputable def L_ref02_Put_0 (n m : Nat) (a1 : Int) (x0 : Int) (x6 : List UInt8) (x7 : Int) : Option (((List UInt8) × Bool × Unit) × Unit) :=
  evAt Try.prog (tab es_ref02_Put) ad_ref02_Put n bd_ref02_Put [.r, .r, .r, .l, .r, .l, .at m] fn_ref02_Put (fun _ _ => none) fn_ref02_Put
    [(0, .one (.int .i64 x0)), (1, .one (.int .i64 a1)), (6, .one (.str x6)), (7, .one (.int .i64 x7))]
/-! ### ref02_Of -/
def sg_ref02_Of : Sig τ := ⟨[(false, T_int), (false, T_int)], [T_string]⟩
def ad_ref02_Of : Adv := ⟨14, [[0, 1], [5], [4]], [], []⟩
noncomputable def es_ref02_Of : List (Ent U) := [e_ref02_Put]
noncomputable def g_ref02_Of : Int × Int × Unit → Option (((List UInt8) × Unit) × Unit) := runFn (U := U) Try.prog es_ref02_Of ad_ref02_Of 0 Try.f38 sg_ref02_Of
noncomputable def e_ref02_Of : Ent U := ⟨38, sg_ref02_Of, g_ref02_Of⟩
/-! ### ref09_Put -/
def sg_ref09_Put : Sig τ := ⟨[(false, T_string)], [T_string, T_bool]⟩
def ad_ref09_Put : Adv := ⟨9, [[0], [0, 6], [2, 3], [2, 3]], [], []⟩
noncomputable def es_ref09_Put : List (Ent U) := []
noncomputable def g_ref09_Put : (List UInt8) × Unit → Option (((List UInt8) × Bool × Unit) × Unit) := runFn (U := U) Try.prog es_ref09_Put ad_ref09_Put 0 Try.f39 sg_ref09_Put
noncomputable def e_ref09_Put : Ent U := ⟨39, sg_ref09_Put, g_ref09_Put⟩
/-! ### ref08_Put -/
def sg_ref08_Put : Sig τ := ⟨[(false, T_api_Entry)], [T_string, T_bool]⟩
def ad_ref08_Put : Adv := ⟨70, [[1], [1, 4, 5], [1, 4, 5, 6, 7], [1, 4, 5, 6, 7, 8, 9], [1, 4, 6, 8, 55], [2, 3], [2, 3]], [], []⟩
noncomputable def es_ref08_Put : List (Ent U) := [e_ref02_Put]
noncomputable def g_ref08_Put : S_api_Entry × Unit → Option (((List UInt8) × Bool × Unit) × Unit) := runFn (U := U) Try.prog es_ref08_Put ad_ref08_Put 0 Try.f58 sg_ref08_Put
noncomputable def e_ref08_Put : Ent U := ⟨58, sg_ref08_Put, g_ref08_Put⟩
/-! ### ref10_line -/
def sg_ref10_line : Sig τ := ⟨[(false, T_api_Msg)], [T_string]⟩
def ad_ref10_line : Adv := ⟨38, [[1], [1, 3], [1, 3, 14], [1, 3], [4], [2]], [], []⟩
noncomputable def es_ref10_line : List (Ent U) := [e_ref10_nought, e_ref05_Of, e_ref08_Put]
noncomputable def g_ref10_line : S_api_Msg × Unit → Option (((List UInt8) × Unit) × Unit) := runFn (U := U) Try.prog es_ref10_line ad_ref10_line 0 Try.f40 sg_ref10_line
noncomputable def e_ref10_line : Ent U := ⟨40, sg_ref10_line, g_ref10_line⟩
/-! ### ref10_Encode -/
def sg_ref10_Encode : Sig τ := ⟨[(false, T_list_api_Msg)], [T_string, T_int, T_api_Errno]⟩
def ad_ref10_Encode : Adv := ⟨115, [[0], [0, 5], [0, 5, 15], [0, 5], [0, 5, 23], [2, 3, 4], [0, 27], [2, 3, 4], [0, 6], [0, 6, 7], [0, 6, 7, 8], [0, 6, 7, 8, 41], [0, 6, 7, 8], [0, 6, 7, 8, 9], [0, 6, 7, 8], [0, 6, 7, 8, 11], [0, 6, 7, 8, 11, 54], [0, 6, 7, 8, 11], [0, 6, 7, 8, 11, 59], [2, 3, 4], [0, 6, 7, 8, 11, 105], [2, 3, 4], [0, 6, 7, 8, 11], [2, 3, 4]], [], []⟩
noncomputable def es_ref10_Encode : List (Ent U) := [e_ref10_Right, e_ref02_Of, e_ref09_Put, e_ref10_line]
noncomputable def h_ref10_Encode (n : Nat) : (List S_api_Msg) × Unit → Option (((List UInt8) × Int × Int × Unit) × Unit) := runFn (U := U) Try.prog es_ref10_Encode ad_ref10_Encode n Try.f15 sg_ref10_Encode
noncomputable def g_ref10_Encode : (List S_api_Msg) × Unit → Option (((List UInt8) × Int × Int × Unit) × Unit) := h_ref10_Encode fuel
noncomputable def e_ref10_Encode : Ent U := ⟨15, sg_ref10_Encode, g_ref10_Encode⟩
noncomputable def bd_ref10_Encode : Code := match Try.f15.body with | some c => c | none => .skip
noncomputable def fn_ref10_Encode : St U → Option (((List UInt8) × Int × Int × Unit) × Unit) := finOf (U := U) Try.prog Try.f15 0 sg_ref10_Encode
noncomputable def L_ref10_Encode_0 (n m : Nat) (a0 : List S_api_Msg) (x5 : Int) : Option (((List UInt8) × Int × Int × Unit) × Unit) :=
  evAt Try.prog (tab es_ref10_Encode) ad_ref10_Encode n bd_ref10_Encode [.r, .l, .r, .l, .at m] fn_ref10_Encode (fun _ _ => none) fn_ref10_Encode
    [(0, .one (.sl 34 a0 .ro)), (5, .one (.int .i64 x5))]
noncomputable def L_ref10_Encode_1 (n m : Nat) (a0 : List S_api_Msg) (y3 : S_api_Msg) (x7 : Int) (x8 : List UInt8) (x11 : Int) : Option (((List UInt8) × Int × Int × Unit) × Unit) :=
  evAt Try.prog (tab es_ref10_Encode) ad_ref10_Encode n bd_ref10_Encode [.r, .r, .r, .r, .r, .r, .r, .l, .r, .l, .at m] fn_ref10_Encode (fun _ _ => none) fn_ref10_Encode
    [(0, .one (.sl 34 a0 .ro)), (6, .box [.int .i64 y3.kind, .int .i64 y3.cmd, .int .i64 y3.ver, .str y3.auth, .int .i64 y3.family, .int .i64 y3.ae, .str y3.prefix_, .int .i64 y3.plen, .int .i64 y3.tag, .str y3.next, .int .i64 y3.metric, .str y3.id, .int .i64 y3.seq, .int .i64 y3.seq2, .int .i64 y3.interval, .int .i64 y3.flags, .int .i64 y3.hops, .int .i64 y3.nonce, .int .i64 y3.cost, .str y3.addr, .str y3.orig, .sl 75 y3.list .ro, .int .i64 y3.type_, .str y3.data, .sl 77 y3.subs .ro]), (7, .one (.int .i64 x7)), (8, .one (.str x8)), (11, .one (.int .i64 x11))]
/-! ### law10_RipEncodes -/
def sg_law10_RipEncodes : Sig τ := ⟨[(false, T_list_api_Msg)], [T_bool]⟩
def ad_law10_RipEncodes : Adv := ⟨59, [[0], [0, 12], [2], [0, 3], [0, 3, 17], [0, 3], [0, 3, 30], [2], [0, 4, 5, 6], [4, 5, 6, 7, 8, 9], [2]], [], []⟩
noncomputable def es_law10_RipEncodes : List (Ent U) := [e_ref07_FewAll, e_law10_awake, e_rip_Right, e_ref10_Right, e_rip_Encode, e_ref10_Encode]
noncomputable def h_law10_RipEncodes (n : Nat) : (List S_api_Msg) × Unit → Option ((Bool × Unit) × Unit) := runFn (U := U) Try.prog es_law10_RipEncodes ad_law10_RipEncodes n Try.f4 sg_law10_RipEncodes
noncomputable def g_law10_RipEncodes : (List S_api_Msg) × Unit → Option ((Bool × Unit) × Unit) := h_law10_RipEncodes fuel
noncomputable def e_law10_RipEncodes : Ent U := ⟨4, sg_law10_RipEncodes, g_law10_RipEncodes⟩
noncomputable def bd_law10_RipEncodes : Code := match Try.f4.body with | some c => c | none => .skip
noncomputable def fn_law10_RipEncodes : St U → Option ((Bool × Unit) × Unit) := finOf (U := U) Try.prog Try.f4 0 sg_law10_RipEncodes
noncomputable def L_law10_RipEncodes_0 (n m : Nat) (a0 : List S_api_Msg) (x3 : Int) : Option ((Bool × Unit) × Unit) :=
  evAt Try.prog (tab es_law10_RipEncodes) ad_law10_RipEncodes n bd_law10_RipEncodes [.r, .r, .l, .r, .l, .at m] fn_law10_RipEncodes (fun _ _ => none) fn_law10_RipEncodes
    [(0, .one (.sl 34 a0 .ro)), (3, .one (.int .i64 x3))]
/-! ### law10_RipBytes -/
def sg_law10_RipBytes : Sig τ := ⟨[(false, T_string)], [T_bool]⟩
def ad_law10_RipBytes : Adv := ⟨69, [[0], [0, 11], [2], [0, 3, 4, 5], [0, 3, 4, 20], [2], [0, 3, 6, 8], [2]], [], []⟩
noncomputable def es_law10_RipBytes : List (Ent U) := [e_law10_awake, e_rip_Parse, e_rip_Encode, e_ref10_Right]
noncomputable def g_law10_RipBytes : (List UInt8) × Unit → Option ((Bool × Unit) × Unit) := runFn (U := U) Try.prog es_law10_RipBytes ad_law10_RipBytes 0 Try.f5 sg_law10_RipBytes
noncomputable def e_law10_RipBytes : Ent U := ⟨5, sg_law10_RipBytes, g_law10_RipBytes⟩
/-! ### law10_RipBack -/
def sg_law10_RipBack : Sig τ := ⟨[(false, T_list_api_Msg), (false, T_uint16)], [T_bool]⟩
def ad_law10_RipBack : Adv := ⟨127, [[0, 1], [0, 1, 17], [4], [0, 1, 5, 6, 7], [0, 1, 5, 6, 26], [4], [0, 1, 5, 8, 10], [0, 1, 5, 65], [4], [0, 5, 11], [0, 11, 12, 14], [0, 11, 12, 80], [4], [4]], [], []⟩
noncomputable def es_law10_RipBack : List (Ent U) := [e_ref07_FewAll, e_law10_awake, e_rip_Encode, e_rip_Parse, e_ref07_SameAll]
noncomputable def g_law10_RipBack : (List S_api_Msg) × Int × Unit → Option ((Bool × Unit) × Unit) := runFn (U := U) Try.prog es_law10_RipBack ad_law10_RipBack 0 Try.f6 sg_law10_RipBack
noncomputable def e_law10_RipBack : Ent U := ⟨6, sg_law10_RipBack, g_law10_RipBack⟩
end Go.VI
