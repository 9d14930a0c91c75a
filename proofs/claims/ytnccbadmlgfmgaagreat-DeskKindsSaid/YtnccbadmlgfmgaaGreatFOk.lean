import Derived.Test.YtnccbadmlgfmgaaGreatFH
set_option linter.unusedVariables false
set_option linter.unusedSimpArgs false
set_option maxRecDepth 1000000
set_option maxHeartbeats 4000000
namespace Go.VI
open Go Go.Proofs
theorem e_text_words_ok : OkE e_text_words := @okF es_text_words okN ad_text_words 0 28 Tryz.f28 Tryz.func28 (by kernel_rfl) (by kernel_rfl) sg_text_words
theorem e_text_Word_ok : OkE e_text_Word := @okF es_text_Word (okC e_text_words_ok okN) ad_text_Word 0 20 Tryz.f20 Tryz.func20 (by kernel_rfl) (by kernel_rfl) sg_text_Word
theorem e_ref29_words_ok : OkE e_ref29_words := @okF es_ref29_words okN ad_ref29_words 0 21 Tryz.f21 Tryz.func21 (by kernel_rfl) (by kernel_rfl) sg_ref29_words
theorem e_ref29_Word_ok : OkE e_ref29_Word := @okF es_ref29_Word (okC e_ref29_words_ok okN) ad_ref29_Word 0 13 Tryz.f13 Tryz.func13 (by kernel_rfl) (by kernel_rfl) sg_ref29_Word
theorem e_ref30_Kind_ok : OkE e_ref30_Kind := @okF es_ref30_Kind (okC e_ref29_Word_ok okN) ad_ref30_Kind fuel 8 Tryz.f8 Tryz.func8 (by kernel_rfl) (by kernel_rfl) sg_ref30_Kind
end Go.VI
