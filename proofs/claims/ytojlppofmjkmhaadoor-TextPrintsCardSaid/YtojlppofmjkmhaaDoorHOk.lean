import Derived.Test.YtojlppofmjkmhaaDoorFH
import Derived.Test.YtojlppofmjkmhaaDoorHNum
set_option linter.unusedVariables false
set_option linter.unusedSimpArgs false
set_option maxRecDepth 1000000
set_option maxHeartbeats 4000000
namespace Go.VI
open Go Go.Proofs
theorem e_text_words_ok : OkE e_text_words := @okF es_text_words okN ad_text_words 0 26 Tryd.f26 Tryd.func26 (by kernel_rfl) (by kernel_rfl) sg_text_words
theorem e_text_Word_ok : OkE e_text_Word := @okF es_text_Word (okC e_text_words_ok okN) ad_text_Word 0 11 Tryd.f11 Tryd.func11 (by kernel_rfl) (by kernel_rfl) sg_text_Word
theorem e_text_kind_ok : OkE e_text_kind := @okF es_text_kind (okC e_text_words_ok okN) ad_text_kind fuel 29 Tryd.f29 Tryd.func29 (by kernel_rfl) (by kernel_rfl) sg_text_kind
theorem e_text_digits_ok : OkE e_text_digits := @okF es_text_digits okN ad_text_digits fuel 40 Tryd.f40 Tryd.func40 (by kernel_rfl) (by kernel_rfl) sg_text_digits
theorem e_strings_IndexByte_ok : OkE e_strings_IndexByte := x_strings_IndexByte_ok
theorem e_text_bytes_ok : OkE e_text_bytes := @okF es_text_bytes (okC e_strings_IndexByte_ok okN) ad_text_bytes fuel 49 Tryd.f49 Tryd.func49 (by kernel_rfl) (by kernel_rfl) sg_text_bytes
theorem e_strings_Cut_ok : OkE e_strings_Cut := x_strings_Cut_ok
theorem e_text_number_ok : OkE e_text_number := x_text_number_ok
theorem e_text_dest_ok : OkE e_text_dest := @okF es_text_dest (okC e_strings_Cut_ok (okC e_text_bytes_ok (okC e_text_number_ok okN))) ad_text_dest 0 51 Tryd.f51 Tryd.func51 (by kernel_rfl) (by kernel_rfl) sg_text_dest
theorem e_text_sub_ok : OkE e_text_sub := @okF es_text_sub (okC e_strings_Cut_ok (okC e_text_number_ok (okC e_text_bytes_ok okN))) ad_text_sub 0 52 Tryd.f52 Tryd.func52 (by kernel_rfl) (by kernel_rfl) sg_text_sub
theorem e_msg_strip_ok : OkE e_msg_strip := @okF es_msg_strip okN ad_msg_strip 0 36 Tryd.f36 Tryd.func36 (by kernel_rfl) (by kernel_rfl) sg_msg_strip
theorem e_msg_Bare_ok : OkE e_msg_Bare := @okF es_msg_Bare (okC e_msg_strip_ok okN) ad_msg_Bare 0 16 Tryd.f16 Tryd.func16 (by kernel_rfl) (by kernel_rfl) sg_msg_Bare
end Go.VI
