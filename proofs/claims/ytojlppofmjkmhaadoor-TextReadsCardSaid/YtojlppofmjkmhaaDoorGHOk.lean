import Derived.Test.YtojlppofmjkmhaaDoorGFH
import Derived.Test.YtojlppofmjkmhaaDoorGHNum
set_option linter.unusedVariables false
set_option linter.unusedSimpArgs false
set_option maxRecDepth 1000000
set_option maxHeartbeats 4000000
namespace Go.VI
open Go Go.Proofs
theorem e_ref07_dests_ok : OkE e_ref07_dests := @okF es_ref07_dests okN ad_ref07_dests fuel 34 Tryd.f34 Tryd.func34 (by kernel_rfl) (by kernel_rfl) sg_ref07_dests
theorem e_ref07_subs_ok : OkE e_ref07_subs := @okF es_ref07_subs okN ad_ref07_subs fuel 35 Tryd.f35 Tryd.func35 (by kernel_rfl) (by kernel_rfl) sg_ref07_subs
theorem e_ref07_Same_ok : OkE e_ref07_Same := @okF es_ref07_Same (okC e_ref07_dests_ok (okC e_ref07_subs_ok okN)) ad_ref07_Same 0 15 Tryd.f15 Tryd.func15 (by kernel_rfl) (by kernel_rfl) sg_ref07_Same
theorem e_text_words_ok : OkE e_text_words := @okF es_text_words okN ad_text_words 0 26 Tryd.f26 Tryd.func26 (by kernel_rfl) (by kernel_rfl) sg_text_words
theorem e_text_Word_ok : OkE e_text_Word := @okF es_text_Word (okC e_text_words_ok okN) ad_text_Word 0 11 Tryd.f11 Tryd.func11 (by kernel_rfl) (by kernel_rfl) sg_text_Word
theorem e_ref07_Bare_ok : OkE e_ref07_Bare := @okF es_ref07_Bare (okC e_ref07_Same_ok okN) ad_ref07_Bare 0 42 Tryd.f42 Tryd.func42 (by kernel_rfl) (by kernel_rfl) sg_ref07_Bare
theorem e_ref29_fine_ok : OkE e_ref29_fine := @okF es_ref29_fine okN ad_ref29_fine fuel 43 Tryd.f43 Tryd.func43 (by kernel_rfl) (by kernel_rfl) sg_ref29_fine
theorem e_ref29_Has_ok : OkE e_ref29_Has := @okF es_ref29_Has (okC e_ref07_Bare_ok (okC e_ref29_fine_ok okN)) ad_ref29_Has fuel 21 Tryd.f21 Tryd.func21 (by kernel_rfl) (by kernel_rfl) sg_ref29_Has
theorem e_ref29_words_ok : OkE e_ref29_words := @okF es_ref29_words okN ad_ref29_words 0 27 Tryd.f27 Tryd.func27 (by kernel_rfl) (by kernel_rfl) sg_ref29_words
theorem e_ref29_Word_ok : OkE e_ref29_Word := @okF es_ref29_Word (okC e_ref29_words_ok okN) ad_ref29_Word 0 12 Tryd.f12 Tryd.func12 (by kernel_rfl) (by kernel_rfl) sg_ref29_Word
theorem e_ref29_number_ok : OkE e_ref29_number := @okF es_ref29_number okN ad_ref29_number fuel 44 Tryd.f44 Tryd.func44 (by kernel_rfl) (by kernel_rfl) sg_ref29_number
theorem e_ref29_num_ok : OkE e_ref29_num := @okF es_ref29_num (okC e_ref29_number_ok okN) ad_ref29_num 0 22 Tryd.f22 Tryd.func22 (by kernel_rfl) (by kernel_rfl) sg_ref29_num
theorem e_ref29_hex_ok : OkE e_ref29_hex := @okF es_ref29_hex okN ad_ref29_hex fuel 45 Tryd.f45 Tryd.func45 (by kernel_rfl) (by kernel_rfl) sg_ref29_hex
theorem e_ref29_text_ok : OkE e_ref29_text := @okF es_ref29_text (okC e_ref29_hex_ok okN) ad_ref29_text 0 23 Tryd.f23 Tryd.func23 (by kernel_rfl) (by kernel_rfl) sg_ref29_text
theorem e_ref29_list_ok : OkE e_ref29_list := @okF es_ref29_list (okC e_ref29_hex_ok (okC e_ref29_number_ok okN)) ad_ref29_list fuel 24 Tryd.f24 Tryd.func24 (by kernel_rfl) (by kernel_rfl) sg_ref29_list
theorem e_ref29_subs_ok : OkE e_ref29_subs := @okF es_ref29_subs (okC e_ref29_number_ok (okC e_ref29_hex_ok okN)) ad_ref29_subs fuel 25 Tryd.f25 Tryd.func25 (by kernel_rfl) (by kernel_rfl) sg_ref29_subs
theorem e_ref29_Print_ok : OkE e_ref29_Print := @okF es_ref29_Print (okC e_ref29_Has_ok (okC e_ref29_Word_ok (okC e_ref29_num_ok (okC e_ref29_text_ok (okC e_ref29_list_ok (okC e_ref29_subs_ok okN)))))) ad_ref29_Print 0 10 Tryd.f10 Tryd.func10 (by kernel_rfl) (by kernel_rfl) sg_ref29_Print
theorem e_text_kind_ok : OkE e_text_kind := @okF es_text_kind (okC e_text_words_ok okN) ad_text_kind fuel 29 Tryd.f29 Tryd.func29 (by kernel_rfl) (by kernel_rfl) sg_text_kind
theorem e_text_digits_ok : OkE e_text_digits := @okF es_text_digits okN ad_text_digits fuel 40 Tryd.f40 Tryd.func40 (by kernel_rfl) (by kernel_rfl) sg_text_digits
theorem e_strings_IndexByte_ok : OkE e_strings_IndexByte := x_strings_IndexByte_ok
theorem e_text_bytes_ok : OkE e_text_bytes := @okF es_text_bytes (okC e_strings_IndexByte_ok okN) ad_text_bytes fuel 49 Tryd.f49 Tryd.func49 (by kernel_rfl) (by kernel_rfl) sg_text_bytes
theorem e_strings_Cut_ok : OkE e_strings_Cut := x_strings_Cut_ok
theorem e_text_number_ok : OkE e_text_number := x_text_number_ok
theorem e_text_dest_ok : OkE e_text_dest := @okF es_text_dest (okC e_strings_Cut_ok (okC e_text_bytes_ok (okC e_text_number_ok okN))) ad_text_dest 0 51 Tryd.f51 Tryd.func51 (by kernel_rfl) (by kernel_rfl) sg_text_dest
theorem e_text_sub_ok : OkE e_text_sub := @okF es_text_sub (okC e_strings_Cut_ok (okC e_text_number_ok (okC e_text_bytes_ok okN))) ad_text_sub 0 52 Tryd.f52 Tryd.func52 (by kernel_rfl) (by kernel_rfl) sg_text_sub
theorem e_msg_strip_ok : OkE e_msg_strip := @okF es_msg_strip okN ad_msg_strip 0 36 Tryd.f36 Tryd.func36 (by kernel_rfl) (by kernel_rfl) sg_msg_strip
theorem e_msg_Bare_ok : OkE e_msg_Bare := @okF es_msg_Bare (okC e_msg_strip_ok okN) ad_msg_Bare 0 16 Tryd.f16 Tryd.func16 (by kernel_rfl) (by kernel_rfl) sg_msg_Bare
theorem e_ref29_value_ok : OkE e_ref29_value := @okF es_ref29_value okN ad_ref29_value fuel 53 Tryd.f53 Tryd.func53 (by kernel_rfl) (by kernel_rfl) sg_ref29_value
theorem e_ref29_bytes_ok : OkE e_ref29_bytes := @okF es_ref29_bytes okN ad_ref29_bytes fuel 54 Tryd.f54 Tryd.func54 (by kernel_rfl) (by kernel_rfl) sg_ref29_bytes
end Go.VI
