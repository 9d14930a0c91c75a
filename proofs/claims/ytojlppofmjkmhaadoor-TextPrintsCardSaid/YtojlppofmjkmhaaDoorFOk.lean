import Derived.Test.YtojlppofmjkmhaaDoorFH
import Derived.Test.YtojlppofmjkmhaaDoorHOk
import Derived.Test.YtojlppofmjkmhaaDoorXOk
set_option linter.unusedVariables false
set_option linter.unusedSimpArgs false
set_option maxRecDepth 1000000
set_option maxHeartbeats 4000000
namespace Go.VI
open Go Go.Proofs
theorem e_ref07_Few_ok : OkE e_ref07_Few := @okF es_ref07_Few okN ad_ref07_Few fuel 7 Tryd.f7 Tryd.func7 (by kernel_rfl) (by kernel_rfl) sg_ref07_Few
theorem e_text_Print_ok : OkE e_text_Print := x_text_Print_ok
theorem e_text_Read_ok : OkE e_text_Read := x_text_Read_ok
theorem e_ref07_dests_ok : OkE e_ref07_dests := @okF es_ref07_dests okN ad_ref07_dests fuel 34 Tryd.f34 Tryd.func34 (by kernel_rfl) (by kernel_rfl) sg_ref07_dests
theorem e_ref07_subs_ok : OkE e_ref07_subs := @okF es_ref07_subs okN ad_ref07_subs fuel 35 Tryd.f35 Tryd.func35 (by kernel_rfl) (by kernel_rfl) sg_ref07_subs
theorem e_ref07_Same_ok : OkE e_ref07_Same := @okF es_ref07_Same (okC e_ref07_dests_ok (okC e_ref07_subs_ok okN)) ad_ref07_Same 0 15 Tryd.f15 Tryd.func15 (by kernel_rfl) (by kernel_rfl) sg_ref07_Same
theorem e_law29_awake_ok : OkE e_law29_awake := @okF es_law29_awake (okC e_text_Print_ok (okC e_text_Read_ok (okC e_ref07_Same_ok (okC e_text_Word_ok okN)))) ad_law29_awake 0 8 Tryd.f8 Tryd.func8 (by kernel_rfl) (by kernel_rfl) sg_law29_awake
theorem e_ref07_Bare_ok : OkE e_ref07_Bare := @okF es_ref07_Bare (okC e_ref07_Same_ok okN) ad_ref07_Bare 0 42 Tryd.f42 Tryd.func42 (by kernel_rfl) (by kernel_rfl) sg_ref07_Bare
theorem e_ref29_fine_ok : OkE e_ref29_fine := @okF es_ref29_fine okN ad_ref29_fine fuel 43 Tryd.f43 Tryd.func43 (by kernel_rfl) (by kernel_rfl) sg_ref29_fine
theorem e_ref29_Has_ok : OkE e_ref29_Has := @okF es_ref29_Has (okC e_ref07_Bare_ok (okC e_ref29_fine_ok okN)) ad_ref29_Has fuel 21 Tryd.f21 Tryd.func21 (by kernel_rfl) (by kernel_rfl) sg_ref29_Has
theorem e_ref29_words_ok : OkE e_ref29_words := @okF es_ref29_words okN ad_ref29_words 0 27 Tryd.f27 Tryd.func27 (by kernel_rfl) (by kernel_rfl) sg_ref29_words
theorem e_ref29_Word_ok : OkE e_ref29_Word := @okF es_ref29_Word (okC e_ref29_words_ok okN) ad_ref29_Word 0 12 Tryd.f12 Tryd.func12 (by kernel_rfl) (by kernel_rfl) sg_ref29_Word
theorem e_ref29_number_ok : OkE e_ref29_number := @okF es_ref29_number okN ad_ref29_number fuel 44 Tryd.f44 Tryd.func44 (by kernel_rfl) (by kernel_rfl) sg_ref29_number
theorem e_ref29_num_ok : OkE e_ref29_num := @okF es_ref29_num (okC e_ref29_number_ok okN) ad_ref29_num 0 22 Tryd.f22 Tryd.func22 (by kernel_rfl) (by kernel_rfl) sg_ref29_num
theorem e_ref29_hex_ok : OkE e_ref29_hex := @okF es_ref29_hex okN ad_ref29_hex fuel 45 Tryd.f45 Tryd.func45 (by kernel_rfl) (by kernel_rfl) sg_ref29_hex
theorem e_ref29_text_ok : OkE e_ref29_text := @okF es_ref29_text (okC e_ref29_hex_ok okN) ad_ref29_text 0 23 Tryd.f23 Tryd.func23 (by kernel_rfl) (by kernel_rfl) sg_ref29_text
theorem e_ref29_list_ok : OkE e_ref29_list := @okF es_ref29_list (okC e_ref29_hex_ok (okC e_ref29_number_ok okN)) ad_ref29_list fuel 24 Tryd.f24 Tryd.func24 (by kernel_rfl) (by kernel_rfl) sg_ref29_list
theorem e_ref29_subs_ok : OkE e_ref29_subs := @okF es_ref29_subs (okC e_ref29_number_ok (okC e_ref29_hex_ok okN)) ad_ref29_subs fuel 25 Tryd.f25 Tryd.func25 (by kernel_rfl) (by kernel_rfl) sg_ref29_subs
theorem e_ref29_Print_ok : OkE e_ref29_Print := @okF es_ref29_Print (okC e_ref29_Has_ok (okC e_ref29_Word_ok (okC e_ref29_num_ok (okC e_ref29_text_ok (okC e_ref29_list_ok (okC e_ref29_subs_ok okN)))))) ad_ref29_Print 0 10 Tryd.f10 Tryd.func10 (by kernel_rfl) (by kernel_rfl) sg_ref29_Print
theorem e_law29_TextPrints_ok : OkE e_law29_TextPrints := @okF es_law29_TextPrints (okC e_ref07_Few_ok (okC e_law29_awake_ok (okC e_text_Print_ok (okC e_ref29_Print_ok (okC e_text_Word_ok (okC e_ref29_Word_ok okN)))))) ad_law29_TextPrints 0 3 Tryd.f3 Tryd.func3 (by kernel_rfl) (by kernel_rfl) sg_law29_TextPrints
theorem e_law29_TextBack_ok : OkE e_law29_TextBack := @okF es_law29_TextBack (okC e_ref07_Few_ok (okC e_law29_awake_ok (okC e_text_Print_ok (okC e_text_Read_ok (okC e_ref07_Same_ok okN))))) ad_law29_TextBack 0 5 Tryd.f5 Tryd.func5 (by kernel_rfl) (by kernel_rfl) sg_law29_TextBack
theorem e_law29_TextWords_ok : OkE e_law29_TextWords := @okF es_law29_TextWords (okC e_text_Word_ok (okC e_text_Read_ok (okC e_law29_awake_ok (okC e_ref07_Same_ok okN)))) ad_law29_TextWords 0 6 Tryd.f6 Tryd.func6 (by kernel_rfl) (by kernel_rfl) sg_law29_TextWords
theorem e_text_far_ok : OkE e_text_far := @okF es_text_far okN ad_text_far 0 39 Tryd.f39 Tryd.func39 (by kernel_rfl) (by kernel_rfl) sg_text_far
end Go.VI
