import Derived.Test.YtblajikhleocpaaDoorFTy
import Derived.Test.YtblajikhleocpaaDoorXM
set_option linter.unusedVariables false
set_option linter.unusedSimpArgs false
set_option maxRecDepth 1000000
set_option maxHeartbeats 4000000
namespace Go.VI
open Go Go.Proofs
/-! ### strings_Count -/
def sg_strings_Count : Sig τ := ⟨[(false, T_string), (false, T_string)], [T_int]⟩
noncomputable def g_strings_Count : (List UInt8) × (List UInt8) × Unit → Option ((Int × Unit) × Unit) := x_strings_Count
noncomputable def e_strings_Count : Ent U := ⟨27, sg_strings_Count, g_strings_Count⟩
/-! ### strings_Split -/
def sg_strings_Split : Sig τ := ⟨[(false, T_string), (false, T_string)], [T_list_string]⟩
noncomputable def g_strings_Split : (List UInt8) × (List UInt8) × Unit → Option (((List (List UInt8)) × Unit) × Unit) := x_strings_Split
noncomputable def e_strings_Split : Ent U := ⟨28, sg_strings_Split, g_strings_Split⟩
/-! ### strings_IndexByte -/
def sg_strings_IndexByte : Sig τ := ⟨[(false, T_string), (false, T_uint8)], [T_int]⟩
noncomputable def g_strings_IndexByte : (List UInt8) × Int × Unit → Option ((Int × Unit) × Unit) := x_strings_IndexByte
noncomputable def e_strings_IndexByte : Ent U := ⟨52, sg_strings_IndexByte, g_strings_IndexByte⟩
/-! ### addr_value -/
def sg_addr_value : Sig τ := ⟨[(false, T_uint8), (false, T_int)], [T_int]⟩
def ad_addr_value : Adv := ⟨12, [[0, 1], [1, 5], [5, 10], [4], [4]], [], [999999]⟩
noncomputable def es_addr_value : List (Ent U) := [e_strings_IndexByte]
noncomputable def g_addr_value : Int × Int × Unit → Option ((Int × Unit) × Unit) := runFn (U := U) Tryd.prog es_addr_value ad_addr_value 0 Tryd.f43 sg_addr_value
noncomputable def e_addr_value : Ent U := ⟨43, sg_addr_value, g_addr_value⟩
/-! ### addr_number -/
def sg_addr_number : Sig τ := ⟨[(false, T_string), (false, T_int), (false, T_int)], [T_int, T_bool]⟩
def ad_addr_number : Adv := ⟨45, [[0, 1, 2], [0, 1, 2, 22], [6, 7], [0, 1, 2, 8], [1, 2, 8, 24, 25, 26], [1, 2, 8, 24, 25, 26, 27], [1, 2, 8, 10, 24, 25, 26], [1, 2, 8, 11, 24, 25, 26], [1, 2, 8, 11, 24, 25, 26, 34], [6, 7], [1, 2, 8, 24, 25, 26], [1, 2, 8, 24, 25, 26, 42], [6, 7], [1, 2, 8, 24, 25, 26], [6, 7]], [], [999999]⟩
noncomputable def es_addr_number : List (Ent U) := [e_addr_value]
noncomputable def h_addr_number (n : Nat) : (List UInt8) × Int × Int × Unit → Option ((Int × Bool × Unit) × Unit) := runFn (U := U) Tryd.prog es_addr_number ad_addr_number n Tryd.f29 sg_addr_number
noncomputable def g_addr_number : (List UInt8) × Int × Int × Unit → Option ((Int × Bool × Unit) × Unit) := h_addr_number fuel
noncomputable def e_addr_number : Ent U := ⟨29, sg_addr_number, g_addr_number⟩
noncomputable def fn_addr_number := lp (tab es_addr_number) ad_addr_number Tryd.f29 0 sg_addr_number
noncomputable def L_addr_number_0 (n m : Nat) (a1 : Int) (a2 : Int) (a0 : List UInt8) (x8 : Int) (x26 : Int) : Option ((Int × Bool × Unit) × Unit) :=
  fn_addr_number n [.r, .r, .r, .l, .r, .l, .at m] [(1, .one (.int .i64 a1)), (2, .one (.int .i64 a2)), (8, .one (.int .i64 x8)), (24, .one (.bs 5 a0 .app)), (25, .one (.int .i64 (a0.length : Int))), (26, .one (.int .i64 x26))]
/-! ### addr_Read -/
def sg_addr_Read : Sig τ := ⟨[(false, T_string)], [T_string, T_bool]⟩
def ad_addr_Read : Adv := ⟨55, [[0], [0, 4, 5, 6, 7], [0, 4, 5, 6, 7, 16], [0, 4, 5, 6, 7], [5, 6, 7, 8], [5, 6, 7, 8, 23], [2, 3], [5, 6, 7, 8, 9], [5, 6, 7, 9, 24, 25, 26], [5, 6, 7, 9, 24, 25, 26, 27], [5, 6, 7, 9, 11, 24, 25, 26], [5, 6, 7, 9, 12, 13, 24, 25, 26], [5, 6, 7, 9, 12, 24, 25, 26, 38], [2, 3], [5, 6, 7, 9, 12, 24, 25, 26, 40], [5, 6, 7, 9, 12, 24, 25, 26], [5, 6, 7, 9, 24, 25, 26], [5, 6, 7, 9, 24, 25, 26], [2, 3]], [41, 47], [999999]⟩
noncomputable def es_addr_Read : List (Ent U) := [e_strings_Count, e_strings_Split, e_addr_number]
noncomputable def h_addr_Read (n : Nat) : (List UInt8) × Unit → Option (((List UInt8) × Bool × Unit) × Unit) := runFn (U := U) Tryd.prog es_addr_Read ad_addr_Read n Tryd.f8 sg_addr_Read
noncomputable def g_addr_Read : (List UInt8) × Unit → Option (((List UInt8) × Bool × Unit) × Unit) := h_addr_Read fuel
noncomputable def e_addr_Read : Ent U := ⟨8, sg_addr_Read, g_addr_Read⟩
noncomputable def fn_addr_Read := lp (tab es_addr_Read) ad_addr_Read Tryd.f8 0 sg_addr_Read
noncomputable def L_addr_Read_0 (n m : Nat) (x5 : Int) (x6 : Int) (x7 : Int) (x9 : List UInt8) (x24 : List (List UInt8)) (x25 : Int) (x26 : Int) : Option (((List UInt8) × Bool × Unit) × Unit) :=
  fn_addr_Read n [.r, .r, .r, .r, .r, .r, .l, .r, .l, .at m] [(5, .one (.int .i64 x5)), (6, .one (.int .i64 x6)), (7, .one (.int .i64 x7)), (9, .one (.bs 5 x9 .app)), (24, .one (.sl 9 x24 .ro)), (25, .one (.int .i64 x25)), (26, .one (.int .i64 x26))]
/-! ### addr_Text -/
def sg_addr_Text : Sig τ := ⟨[(false, T_string)], [T_string, T_bool]⟩
noncomputable def g_addr_Text : (List UInt8) × Unit → Option (((List UInt8) × Bool × Unit) × Unit) := x_addr_Text
noncomputable def e_addr_Text : Ent U := ⟨7, sg_addr_Text, g_addr_Text⟩
/-! ### addr_Family -/
def sg_addr_Family : Sig τ := ⟨[(false, T_string)], [T_int]⟩
def ad_addr_Family : Adv := ⟨9, [[0], [4], [4, 5], [2], [7], [2], [2]], [], []⟩
noncomputable def es_addr_Family : List (Ent U) := []
noncomputable def g_addr_Family : (List UInt8) × Unit → Option ((Int × Unit) × Unit) := runFn (U := U) Tryd.prog es_addr_Family ad_addr_Family 0 Tryd.f13 sg_addr_Family
noncomputable def e_addr_Family : Ent U := ⟨13, sg_addr_Family, g_addr_Family⟩
/-! ### internal_stringslite_HasPrefix -/
def sg_internal_stringslite_HasPrefix : Sig τ := ⟨[(false, T_string), (false, T_string)], [T_bool]⟩
def ad_internal_stringslite_HasPrefix : Adv := ⟨18, [[0, 1], [4]], [], []⟩
noncomputable def es_internal_stringslite_HasPrefix : List (Ent U) := []
noncomputable def g_internal_stringslite_HasPrefix : (List UInt8) × (List UInt8) × Unit → Option ((Bool × Unit) × Unit) := runFn (U := U) Tryd.prog es_internal_stringslite_HasPrefix ad_internal_stringslite_HasPrefix 0 Tryd.f44 sg_internal_stringslite_HasPrefix
noncomputable def e_internal_stringslite_HasPrefix : Ent U := ⟨44, sg_internal_stringslite_HasPrefix, g_internal_stringslite_HasPrefix⟩
/-! ### strings_HasPrefix -/
def sg_strings_HasPrefix : Sig τ := ⟨[(false, T_string), (false, T_string)], [T_bool]⟩
def ad_strings_HasPrefix : Adv := ⟨8, [[0, 1], [4]], [], []⟩
noncomputable def es_strings_HasPrefix : List (Ent U) := [e_internal_stringslite_HasPrefix]
noncomputable def g_strings_HasPrefix : (List UInt8) × (List UInt8) × Unit → Option ((Bool × Unit) × Unit) := runFn (U := U) Tryd.prog es_strings_HasPrefix ad_strings_HasPrefix 0 Tryd.f31 sg_strings_HasPrefix
noncomputable def e_strings_HasPrefix : Ent U := ⟨31, sg_strings_HasPrefix, g_strings_HasPrefix⟩
/-! ### addr_Link -/
def sg_addr_Link : Sig τ := ⟨[(false, T_string)], [T_bool]⟩
def ad_addr_Link : Adv := ⟨10, [[0], [2]], [], []⟩
noncomputable def es_addr_Link : List (Ent U) := [e_strings_HasPrefix]
noncomputable def g_addr_Link : (List UInt8) × Unit → Option ((Bool × Unit) × Unit) := runFn (U := U) Tryd.prog es_addr_Link ad_addr_Link 0 Tryd.f15 sg_addr_Link
noncomputable def e_addr_Link : Ent U := ⟨15, sg_addr_Link, g_addr_Link⟩
/-! ### law06_awake -/
def sg_law06_awake : Sig τ := ⟨[], [T_bool]⟩
def ad_law06_awake : Adv := ⟨35, [[], [1, 2], [1, 2, 3, 4], [0]], [], [999999]⟩
noncomputable def es_law06_awake : List (Ent U) := [e_addr_Read, e_addr_Text, e_addr_Family, e_addr_Link]
noncomputable def g_law06_awake : Unit → Option ((Bool × Unit) × Unit) := runFn (U := U) Tryd.prog es_law06_awake ad_law06_awake 0 Tryd.f6 sg_law06_awake
noncomputable def e_law06_awake : Ent U := ⟨6, sg_law06_awake, g_law06_awake⟩
/-! ### law06_AddrTexts -/
def sg_law06_AddrTexts : Sig τ := ⟨[(false, T_string), (false, T_string)], [T_bool]⟩
def ad_law06_AddrTexts : Adv := ⟨79, [[0, 1], [0, 1, 20], [4], [0, 1, 5, 6], [0, 1, 5, 6, 36], [4], [0, 1, 6, 7, 8], [1, 51], [4], [1, 9, 10], [1, 9, 10, 11], [4]], [], [999999]⟩
noncomputable def es_law06_AddrTexts : List (Ent U) := [e_law06_awake, e_addr_Text, e_addr_Read]
noncomputable def g_law06_AddrTexts : (List UInt8) × (List UInt8) × Unit → Option ((Bool × Unit) × Unit) := runFn (U := U) Tryd.prog es_law06_AddrTexts ad_law06_AddrTexts 0 Tryd.f3 sg_law06_AddrTexts
noncomputable def e_law06_AddrTexts : Ent U := ⟨3, sg_law06_AddrTexts, g_law06_AddrTexts⟩
/-! ### addr_Short -/
def sg_addr_Short : Sig τ := ⟨[(false, T_string)], [T_string, T_bool]⟩
def ad_addr_Short : Adv := ⟨9, [[0], [0, 6], [2, 3], [2, 3]], [], []⟩
noncomputable def es_addr_Short : List (Ent U) := [e_addr_Link]
noncomputable def g_addr_Short : (List UInt8) × Unit → Option (((List UInt8) × Bool × Unit) × Unit) := runFn (U := U) Tryd.prog es_addr_Short ad_addr_Short 0 Tryd.f9 sg_addr_Short
noncomputable def e_addr_Short : Ent U := ⟨9, sg_addr_Short, g_addr_Short⟩
/-! ### ref06_link -/
def sg_ref06_link : Sig τ := ⟨[], [T_string]⟩
def ad_ref06_link : Adv := ⟨1, [[], [0]], [], []⟩
noncomputable def es_ref06_link : List (Ent U) := []
noncomputable def g_ref06_link : Unit → Option (((List UInt8) × Unit) × Unit) := runFn (U := U) Tryd.prog es_ref06_link ad_ref06_link 0 Tryd.f30 sg_ref06_link
noncomputable def e_ref06_link : Ent U := ⟨30, sg_ref06_link, g_ref06_link⟩
/-! ### ref06_Link -/
def sg_ref06_Link : Sig τ := ⟨[(false, T_string)], [T_bool]⟩
def ad_ref06_Link : Adv := ⟨12, [[0], [2]], [], []⟩
noncomputable def es_ref06_Link : List (Ent U) := [e_ref06_link]
noncomputable def g_ref06_Link : (List UInt8) × Unit → Option ((Bool × Unit) × Unit) := runFn (U := U) Tryd.prog es_ref06_Link ad_ref06_Link 0 Tryd.f16 sg_ref06_Link
noncomputable def e_ref06_Link : Ent U := ⟨16, sg_ref06_Link, g_ref06_Link⟩
/-! ### ref06_Short -/
def sg_ref06_Short : Sig τ := ⟨[(false, T_string)], [T_string, T_bool]⟩
def ad_ref06_Short : Adv := ⟨9, [[0], [0, 6], [2, 3], [2, 3]], [], []⟩
noncomputable def es_ref06_Short : List (Ent U) := [e_ref06_Link]
noncomputable def g_ref06_Short : (List UInt8) × Unit → Option (((List UInt8) × Bool × Unit) × Unit) := runFn (U := U) Tryd.prog es_ref06_Short ad_ref06_Short 0 Tryd.f10 sg_ref06_Short
noncomputable def e_ref06_Short : Ent U := ⟨10, sg_ref06_Short, g_ref06_Short⟩
/-! ### addr_Long -/
def sg_addr_Long : Sig τ := ⟨[(false, T_string)], [T_string, T_bool]⟩
def ad_addr_Long : Adv := ⟨9, [[0], [0, 6], [2, 3], [2, 3]], [], []⟩
noncomputable def es_addr_Long : List (Ent U) := []
noncomputable def g_addr_Long : (List UInt8) × Unit → Option (((List UInt8) × Bool × Unit) × Unit) := runFn (U := U) Tryd.prog es_addr_Long ad_addr_Long 0 Tryd.f11 sg_addr_Long
noncomputable def e_addr_Long : Ent U := ⟨11, sg_addr_Long, g_addr_Long⟩
/-! ### ref06_Long -/
def sg_ref06_Long : Sig τ := ⟨[(false, T_string)], [T_string, T_bool]⟩
def ad_ref06_Long : Adv := ⟨10, [[0], [0, 6], [2, 3], [2, 3]], [], []⟩
noncomputable def es_ref06_Long : List (Ent U) := [e_ref06_link]
noncomputable def g_ref06_Long : (List UInt8) × Unit → Option (((List UInt8) × Bool × Unit) × Unit) := runFn (U := U) Tryd.prog es_ref06_Long ad_ref06_Long 0 Tryd.f12 sg_ref06_Long
noncomputable def e_ref06_Long : Ent U := ⟨12, sg_ref06_Long, g_ref06_Long⟩
/-! ### ref06_Family -/
def sg_ref06_Family : Sig τ := ⟨[(false, T_string)], [T_int]⟩
def ad_ref06_Family : Adv := ⟨9, [[0], [0, 5], [2], [8], [2], [2]], [], []⟩
noncomputable def es_ref06_Family : List (Ent U) := []
noncomputable def g_ref06_Family : (List UInt8) × Unit → Option ((Int × Unit) × Unit) := runFn (U := U) Tryd.prog es_ref06_Family ad_ref06_Family 0 Tryd.f14 sg_ref06_Family
noncomputable def e_ref06_Family : Ent U := ⟨14, sg_ref06_Family, g_ref06_Family⟩
/-! ### addr_Map -/
def sg_addr_Map : Sig τ := ⟨[(false, T_string)], [T_string, T_bool]⟩
def ad_addr_Map : Adv := ⟨9, [[0], [0, 6], [2, 3], [2, 3]], [], [999999]⟩
noncomputable def es_addr_Map : List (Ent U) := []
noncomputable def g_addr_Map : (List UInt8) × Unit → Option (((List UInt8) × Bool × Unit) × Unit) := runFn (U := U) Tryd.prog es_addr_Map ad_addr_Map 0 Tryd.f17 sg_addr_Map
noncomputable def e_addr_Map : Ent U := ⟨17, sg_addr_Map, g_addr_Map⟩
/-! ### ref06_mapped -/
def sg_ref06_mapped : Sig τ := ⟨[], [T_string]⟩
def ad_ref06_mapped : Adv := ⟨1, [[], [0]], [], [999999]⟩
noncomputable def es_ref06_mapped : List (Ent U) := []
noncomputable def g_ref06_mapped : Unit → Option (((List UInt8) × Unit) × Unit) := runFn (U := U) Tryd.prog es_ref06_mapped ad_ref06_mapped 0 Tryd.f32 sg_ref06_mapped
noncomputable def e_ref06_mapped : Ent U := ⟨32, sg_ref06_mapped, g_ref06_mapped⟩
/-! ### ref06_Map -/
def sg_ref06_Map : Sig τ := ⟨[(false, T_string)], [T_string, T_bool]⟩
def ad_ref06_Map : Adv := ⟨10, [[0], [0, 6], [2, 3], [2, 3]], [], [999999]⟩
noncomputable def es_ref06_Map : List (Ent U) := [e_ref06_mapped]
noncomputable def g_ref06_Map : (List UInt8) × Unit → Option (((List UInt8) × Bool × Unit) × Unit) := runFn (U := U) Tryd.prog es_ref06_Map ad_ref06_Map 0 Tryd.f18 sg_ref06_Map
noncomputable def e_ref06_Map : Ent U := ⟨18, sg_ref06_Map, g_ref06_Map⟩
/-! ### addr_Unmap -/
def sg_addr_Unmap : Sig τ := ⟨[(false, T_string)], [T_string, T_bool]⟩
def ad_addr_Unmap : Adv := ⟨14, [[0], [0, 11], [2, 3], [2, 3]], [], [999999]⟩
noncomputable def es_addr_Unmap : List (Ent U) := [e_strings_HasPrefix]
noncomputable def g_addr_Unmap : (List UInt8) × Unit → Option (((List UInt8) × Bool × Unit) × Unit) := runFn (U := U) Tryd.prog es_addr_Unmap ad_addr_Unmap 0 Tryd.f19 sg_addr_Unmap
noncomputable def e_addr_Unmap : Ent U := ⟨19, sg_addr_Unmap, g_addr_Unmap⟩
/-! ### ref06_Unmap -/
def sg_ref06_Unmap : Sig τ := ⟨[(false, T_string)], [T_string, T_bool]⟩
def ad_ref06_Unmap : Adv := ⟨15, [[0], [0, 12], [2, 3], [2, 3]], [], [999999]⟩
noncomputable def es_ref06_Unmap : List (Ent U) := [e_ref06_mapped]
noncomputable def g_ref06_Unmap : (List UInt8) × Unit → Option (((List UInt8) × Bool × Unit) × Unit) := runFn (U := U) Tryd.prog es_ref06_Unmap ad_ref06_Unmap 0 Tryd.f20 sg_ref06_Unmap
noncomputable def e_ref06_Unmap : Ent U := ⟨20, sg_ref06_Unmap, g_ref06_Unmap⟩
/-! ### ref06_number -/
def sg_ref06_number : Sig τ := ⟨[(false, T_int), (false, T_int)], [T_string]⟩
def ad_ref06_number : Adv := ⟨22, [[0, 1], [0, 1, 5], [0, 1, 5], [0, 1, 5], [0, 1, 5, 20], [4]], [], [999999]⟩
noncomputable def es_ref06_number : List (Ent U) := []
noncomputable def h_ref06_number (n : Nat) : Int × Int × Unit → Option (((List UInt8) × Unit) × Unit) := runFn (U := U) Tryd.prog es_ref06_number ad_ref06_number n Tryd.f33 sg_ref06_number
noncomputable def g_ref06_number : Int × Int × Unit → Option (((List UInt8) × Unit) × Unit) := h_ref06_number fuel
noncomputable def e_ref06_number : Ent U := ⟨33, sg_ref06_number, g_ref06_number⟩
noncomputable def fn_ref06_number := lp (tab es_ref06_number) ad_ref06_number Tryd.f33 0 sg_ref06_number
noncomputable def L_ref06_number_0 (n m : Nat) (a1 : Int) (x0 : Int) (x5 : List UInt8) : Option (((List UInt8) × Unit) × Unit) :=
  fn_ref06_number n [.r, .r, .l, .at m] [(0, .one (.int .i64 x0)), (1, .one (.int .i64 a1)), (5, .one (.str x5))]
noncomputable def L_ref06_number_1 (n m : Nat) (a1 : Int) (x0 : Int) (x5 : List UInt8) (x20 : Bool) : Option (((List UInt8) × Unit) × Unit) :=
  fn_ref06_number n [.r, .r, .l, .at m] [(0, .one (.int .i64 x0)), (1, .one (.int .i64 a1)), (5, .one (.str x5)), (20, .one (.bool x20))]
/-! ### ref06_Text -/
def sg_ref06_Text : Sig τ := ⟨[(false, T_string)], [T_string, T_bool]⟩
def ad_ref06_Text : Adv := ⟨51, [[0], [0, 4], [0, 4, 8], [2, 3], [0, 4, 8, 9], [0, 4, 5], [0, 4, 5, 12], [0, 4, 5], [0, 4, 5, 16], [0, 4, 5], [0, 4, 5], [0, 4, 26], [0, 4, 6], [0, 4, 6, 29], [0, 4, 6], [0, 4, 6, 33], [0, 4, 6], [0, 4, 6], [2, 3]], [], [999999]⟩
noncomputable def es_ref06_Text : List (Ent U) := [e_ref06_Family, e_ref06_number]
noncomputable def h_ref06_Text (n : Nat) : (List UInt8) × Unit → Option (((List UInt8) × Bool × Unit) × Unit) := runFn (U := U) Tryd.prog es_ref06_Text ad_ref06_Text n Tryd.f21 sg_ref06_Text
noncomputable def g_ref06_Text : (List UInt8) × Unit → Option (((List UInt8) × Bool × Unit) × Unit) := h_ref06_Text fuel
noncomputable def e_ref06_Text : Ent U := ⟨21, sg_ref06_Text, g_ref06_Text⟩
noncomputable def fn_ref06_Text := lp (tab es_ref06_Text) ad_ref06_Text Tryd.f21 0 sg_ref06_Text
noncomputable def L_ref06_Text_0 (n m : Nat) (a0 : List UInt8) (x4 : List UInt8) (x5 : Int) : Option (((List UInt8) × Bool × Unit) × Unit) :=
  fn_ref06_Text n [.r, .r, .l, .r, .l, .r, .l, .r, .l, .at m] [(0, .one (.str a0)), (4, .one (.str x4)), (5, .one (.int .i64 x5))]
noncomputable def L_ref06_Text_1 (n m : Nat) (a0 : List UInt8) (x4 : List UInt8) (x6 : Int) : Option (((List UInt8) × Bool × Unit) × Unit) :=
  fn_ref06_Text n [.r, .r, .l, .r, .l, .r, .r, .r, .l, .r, .l, .at m] [(0, .one (.str a0)), (4, .one (.str x4)), (6, .one (.int .i64 x6))]
/-! ### ref06_parts -/
def sg_ref06_parts : Sig τ := ⟨[(false, T_string), (false, T_uint8)], [T_list_string]⟩
noncomputable def g_ref06_parts : (List UInt8) × Int × Unit → Option (((List (List UInt8)) × Unit) × Unit) := x_ref06_parts
noncomputable def e_ref06_parts : Ent U := ⟨34, sg_ref06_parts, g_ref06_parts⟩
/-! ### ref06_value -/
def sg_ref06_value : Sig τ := ⟨[(false, T_string), (false, T_int), (false, T_int)], [T_int]⟩
def ad_ref06_value : Adv := ⟨55, [[0, 1, 2], [0, 1, 2, 18], [6], [0, 1, 2, 7], [0, 1, 2, 7, 8], [0, 1, 2, 7, 8, 22], [0, 1, 2, 7, 8], [0, 1, 2, 7, 8, 9], [0, 1, 2, 7, 8, 9, 10], [0, 1, 2, 7, 8, 9, 10, 27], [0, 1, 2, 7, 8, 9, 10], [0, 1, 2, 7, 8, 9, 10, 35], [0, 1, 2, 7, 8, 9, 10], [0, 1, 2, 7, 8, 9, 38], [6], [0, 1, 2, 7, 8], [7, 53], [6], [6]], [], [999999]⟩
noncomputable def es_ref06_value : List (Ent U) := [e_ref06_number]
noncomputable def h_ref06_value (n : Nat) : (List UInt8) × Int × Int × Unit → Option ((Int × Unit) × Unit) := runFn (U := U) Tryd.prog es_ref06_value ad_ref06_value n Tryd.f35 sg_ref06_value
noncomputable def g_ref06_value : (List UInt8) × Int × Int × Unit → Option ((Int × Unit) × Unit) := h_ref06_value fuel
noncomputable def e_ref06_value : Ent U := ⟨35, sg_ref06_value, g_ref06_value⟩
noncomputable def fn_ref06_value := lp (tab es_ref06_value) ad_ref06_value Tryd.f35 0 sg_ref06_value
noncomputable def L_ref06_value_0 (n m : Nat) (a0 : List UInt8) (a1 : Int) (a2 : Int) (x7 : Int) (x8 : Int) : Option ((Int × Unit) × Unit) :=
  fn_ref06_value n [.r, .r, .r, .l, .r, .l, .at m] [(0, .one (.str a0)), (1, .one (.int .i64 a1)), (2, .one (.int .i64 a2)), (7, .one (.int .i64 x7)), (8, .one (.int .i64 x8))]
noncomputable def L_ref06_value_1 (n m0 m : Nat) (a0 : List UInt8) (a1 : Int) (a2 : Int) (x7 : Int) (x8 : Int) (x9 : Int) (x10 : Int) : Option ((Int × Unit) × Unit) :=
  fn_ref06_value n [.r, .r, .r, .l, .r, .l, .inn m0, .r, .l, .l, .r, .l, .r, .l, .at m] [(0, .one (.str a0)), (1, .one (.int .i64 a1)), (2, .one (.int .i64 a2)), (7, .one (.int .i64 x7)), (8, .one (.int .i64 x8)), (9, .one (.int .i64 x9)), (10, .one (.int .i64 x10))]
/-! ### ref06_Read -/
def sg_ref06_Read : Sig τ := ⟨[(false, T_string)], [T_string, T_bool]⟩
def ad_ref06_Read : Adv := ⟨61, [[0], [4, 5], [4, 5, 6], [4, 5, 6, 17], [4, 6, 7], [4, 6, 7, 19], [4, 6, 7], [4, 6, 7, 8], [4, 6, 7, 8, 28], [2, 3], [4, 6, 7], [2, 3], [5, 6, 38], [2, 3], [5, 6, 9], [5, 6, 9, 40], [5, 6, 9], [5, 6, 9, 10], [5, 6, 9, 10, 49], [2, 3], [5, 6, 9], [2, 3]], [], [999999]⟩
noncomputable def es_ref06_Read : List (Ent U) := [e_ref06_parts, e_ref06_value]
noncomputable def h_ref06_Read (n : Nat) : (List UInt8) × Unit → Option (((List UInt8) × Bool × Unit) × Unit) := runFn (U := U) Tryd.prog es_ref06_Read ad_ref06_Read n Tryd.f22 sg_ref06_Read
noncomputable def g_ref06_Read : (List UInt8) × Unit → Option (((List UInt8) × Bool × Unit) × Unit) := h_ref06_Read fuel
noncomputable def e_ref06_Read : Ent U := ⟨22, sg_ref06_Read, g_ref06_Read⟩
noncomputable def fn_ref06_Read := lp (tab es_ref06_Read) ad_ref06_Read Tryd.f22 0 sg_ref06_Read
noncomputable def L_ref06_Read_0 (n m : Nat) (r1 : ((List (List UInt8)) × Unit) × Unit) (x6 : List UInt8) (x7 : Int) : Option (((List UInt8) × Bool × Unit) × Unit) :=
  fn_ref06_Read n [.r, .r, .r, .l, .r, .l, .l, .r, .l, .at m] [(4, .one (.sl 9 r1.1.1 .ro)), (6, .one (.str x6)), (7, .one (.int .i64 x7))]
noncomputable def L_ref06_Read_1 (n m : Nat) (r2 : ((List (List UInt8)) × Unit) × Unit) (x6 : List UInt8) (x9 : Int) : Option (((List UInt8) × Bool × Unit) × Unit) :=
  fn_ref06_Read n [.r, .r, .r, .r, .r, .l, .r, .l, .at m] [(5, .one (.sl 9 r2.1.1 .ro)), (6, .one (.str x6)), (9, .one (.int .i64 x9))]
/-! ### law06_AddrTells -/
def sg_law06_AddrTells : Sig τ := ⟨[(false, T_string), (false, T_string)], [T_bool]⟩
def ad_law06_AddrTells : Adv := ⟨153, [[0, 1], [0, 1, 20], [4], [0, 1, 5, 6], [0, 1, 5, 6, 7, 8], [0, 1, 5, 6, 7, 8, 9, 10], [0, 1, 5, 6, 7, 8, 9, 10, 11, 12], [0, 1, 73], [4], [0, 1, 5, 6], [0, 1, 5, 6, 7, 8], [0, 1, 5, 6, 7, 8, 9, 10], [0, 1, 5, 6, 7, 8, 9, 10, 11, 12], [0, 1, 111], [4], [0, 1, 5, 6], [1, 5, 6, 7, 8], [1, 5, 6, 7, 8, 9, 10], [5, 6, 7, 8, 9, 10, 11, 12], [4]], [], [999999]⟩
noncomputable def es_law06_AddrTells : List (Ent U) := [e_law06_awake, e_addr_Short, e_ref06_Short, e_addr_Long, e_ref06_Long, e_addr_Family, e_ref06_Family, e_addr_Link, e_ref06_Link, e_addr_Map, e_ref06_Map, e_addr_Unmap, e_ref06_Unmap, e_addr_Text, e_ref06_Text, e_addr_Read, e_ref06_Read]
noncomputable def g_law06_AddrTells : (List UInt8) × (List UInt8) × Unit → Option ((Bool × Unit) × Unit) := runFn (U := U) Tryd.prog es_law06_AddrTells ad_law06_AddrTells 0 Tryd.f4 sg_law06_AddrTells
noncomputable def e_law06_AddrTells : Ent U := ⟨4, sg_law06_AddrTells, g_law06_AddrTells⟩
/-! ### law06_AddrForms -/
def sg_law06_AddrForms : Sig τ := ⟨[(false, T_string)], [T_bool]⟩
def ad_law06_AddrForms : Adv := ⟨96, [[0], [0, 15], [2], [0, 3, 4], [0, 3, 4, 5, 6], [0, 3, 4, 5, 6, 7, 8], [0, 3, 4, 5, 6, 8, 9, 10], [0, 3, 4, 74], [2], [0, 3, 4, 12], [2]], [], [999999]⟩
noncomputable def es_law06_AddrForms : List (Ent U) := [e_law06_awake, e_addr_Long, e_addr_Short, e_addr_Map, e_addr_Unmap, e_addr_Link]
noncomputable def g_law06_AddrForms : (List UInt8) × Unit → Option ((Bool × Unit) × Unit) := runFn (U := U) Tryd.prog es_law06_AddrForms ad_law06_AddrForms 0 Tryd.f5 sg_law06_AddrForms
noncomputable def e_law06_AddrForms : Ent U := ⟨5, sg_law06_AddrForms, g_law06_AddrForms⟩
end Go.VI
