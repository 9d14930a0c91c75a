import Derived.Test.YtblajikhleocpaaDoorFH
import Derived.Test.YtblajikhleocpaaDoorXOk
set_option linter.unusedVariables false
set_option linter.unusedSimpArgs false
set_option maxRecDepth 1000000
set_option maxHeartbeats 4000000
namespace Go.VI
open Go Go.Proofs
theorem e_strings_Count_ok : OkE e_strings_Count := x_strings_Count_ok
theorem e_strings_Split_ok : OkE e_strings_Split := x_strings_Split_ok
theorem e_strings_IndexByte_ok : OkE e_strings_IndexByte := x_strings_IndexByte_ok
theorem e_addr_value_ok : OkE e_addr_value := @okF es_addr_value (okC e_strings_IndexByte_ok okN) ad_addr_value 0 43 Tryd.f43 Tryd.func43 (by kernel_rfl) (by kernel_rfl) sg_addr_value
theorem e_addr_number_ok : OkE e_addr_number := @okF es_addr_number (okC e_addr_value_ok okN) ad_addr_number fuel 29 Tryd.f29 Tryd.func29 (by kernel_rfl) (by kernel_rfl) sg_addr_number
theorem e_addr_Read_ok : OkE e_addr_Read := @okF es_addr_Read (okC e_strings_Count_ok (okC e_strings_Split_ok (okC e_addr_number_ok okN))) ad_addr_Read fuel 8 Tryd.f8 Tryd.func8 (by kernel_rfl) (by kernel_rfl) sg_addr_Read
theorem e_addr_Text_ok : OkE e_addr_Text := x_addr_Text_ok
theorem e_addr_Family_ok : OkE e_addr_Family := @okF es_addr_Family okN ad_addr_Family 0 13 Tryd.f13 Tryd.func13 (by kernel_rfl) (by kernel_rfl) sg_addr_Family
theorem e_internal_stringslite_HasPrefix_ok : OkE e_internal_stringslite_HasPrefix := @okF es_internal_stringslite_HasPrefix okN ad_internal_stringslite_HasPrefix 0 44 Tryd.f44 Tryd.func44 (by kernel_rfl) (by kernel_rfl) sg_internal_stringslite_HasPrefix
theorem e_strings_HasPrefix_ok : OkE e_strings_HasPrefix := @okF es_strings_HasPrefix (okC e_internal_stringslite_HasPrefix_ok okN) ad_strings_HasPrefix 0 31 Tryd.f31 Tryd.func31 (by kernel_rfl) (by kernel_rfl) sg_strings_HasPrefix
theorem e_addr_Link_ok : OkE e_addr_Link := @okF es_addr_Link (okC e_strings_HasPrefix_ok okN) ad_addr_Link 0 15 Tryd.f15 Tryd.func15 (by kernel_rfl) (by kernel_rfl) sg_addr_Link
theorem e_law06_awake_ok : OkE e_law06_awake := @okF es_law06_awake (okC e_addr_Read_ok (okC e_addr_Text_ok (okC e_addr_Family_ok (okC e_addr_Link_ok okN)))) ad_law06_awake 0 6 Tryd.f6 Tryd.func6 (by kernel_rfl) (by kernel_rfl) sg_law06_awake
theorem e_law06_AddrTexts_ok : OkE e_law06_AddrTexts := @okF es_law06_AddrTexts (okC e_law06_awake_ok (okC e_addr_Text_ok (okC e_addr_Read_ok okN))) ad_law06_AddrTexts 0 3 Tryd.f3 Tryd.func3 (by kernel_rfl) (by kernel_rfl) sg_law06_AddrTexts
theorem e_addr_Short_ok : OkE e_addr_Short := @okF es_addr_Short (okC e_addr_Link_ok okN) ad_addr_Short 0 9 Tryd.f9 Tryd.func9 (by kernel_rfl) (by kernel_rfl) sg_addr_Short
theorem e_ref06_link_ok : OkE e_ref06_link := @okF es_ref06_link okN ad_ref06_link 0 30 Tryd.f30 Tryd.func30 (by kernel_rfl) (by kernel_rfl) sg_ref06_link
theorem e_ref06_Link_ok : OkE e_ref06_Link := @okF es_ref06_Link (okC e_ref06_link_ok okN) ad_ref06_Link 0 16 Tryd.f16 Tryd.func16 (by kernel_rfl) (by kernel_rfl) sg_ref06_Link
theorem e_ref06_Short_ok : OkE e_ref06_Short := @okF es_ref06_Short (okC e_ref06_Link_ok okN) ad_ref06_Short 0 10 Tryd.f10 Tryd.func10 (by kernel_rfl) (by kernel_rfl) sg_ref06_Short
theorem e_addr_Long_ok : OkE e_addr_Long := @okF es_addr_Long okN ad_addr_Long 0 11 Tryd.f11 Tryd.func11 (by kernel_rfl) (by kernel_rfl) sg_addr_Long
theorem e_ref06_Long_ok : OkE e_ref06_Long := @okF es_ref06_Long (okC e_ref06_link_ok okN) ad_ref06_Long 0 12 Tryd.f12 Tryd.func12 (by kernel_rfl) (by kernel_rfl) sg_ref06_Long
theorem e_ref06_Family_ok : OkE e_ref06_Family := @okF es_ref06_Family okN ad_ref06_Family 0 14 Tryd.f14 Tryd.func14 (by kernel_rfl) (by kernel_rfl) sg_ref06_Family
theorem e_addr_Map_ok : OkE e_addr_Map := @okF es_addr_Map okN ad_addr_Map 0 17 Tryd.f17 Tryd.func17 (by kernel_rfl) (by kernel_rfl) sg_addr_Map
theorem e_ref06_mapped_ok : OkE e_ref06_mapped := @okF es_ref06_mapped okN ad_ref06_mapped 0 32 Tryd.f32 Tryd.func32 (by kernel_rfl) (by kernel_rfl) sg_ref06_mapped
theorem e_ref06_Map_ok : OkE e_ref06_Map := @okF es_ref06_Map (okC e_ref06_mapped_ok okN) ad_ref06_Map 0 18 Tryd.f18 Tryd.func18 (by kernel_rfl) (by kernel_rfl) sg_ref06_Map
theorem e_addr_Unmap_ok : OkE e_addr_Unmap := @okF es_addr_Unmap (okC e_strings_HasPrefix_ok okN) ad_addr_Unmap 0 19 Tryd.f19 Tryd.func19 (by kernel_rfl) (by kernel_rfl) sg_addr_Unmap
theorem e_ref06_Unmap_ok : OkE e_ref06_Unmap := @okF es_ref06_Unmap (okC e_ref06_mapped_ok okN) ad_ref06_Unmap 0 20 Tryd.f20 Tryd.func20 (by kernel_rfl) (by kernel_rfl) sg_ref06_Unmap
theorem e_ref06_number_ok : OkE e_ref06_number := @okF es_ref06_number okN ad_ref06_number fuel 33 Tryd.f33 Tryd.func33 (by kernel_rfl) (by kernel_rfl) sg_ref06_number
theorem e_ref06_Text_ok : OkE e_ref06_Text := @okF es_ref06_Text (okC e_ref06_Family_ok (okC e_ref06_number_ok okN)) ad_ref06_Text fuel 21 Tryd.f21 Tryd.func21 (by kernel_rfl) (by kernel_rfl) sg_ref06_Text
theorem e_ref06_parts_ok : OkE e_ref06_parts := x_ref06_parts_ok
theorem e_ref06_value_ok : OkE e_ref06_value := @okF es_ref06_value (okC e_ref06_number_ok okN) ad_ref06_value fuel 35 Tryd.f35 Tryd.func35 (by kernel_rfl) (by kernel_rfl) sg_ref06_value
theorem e_ref06_Read_ok : OkE e_ref06_Read := @okF es_ref06_Read (okC e_ref06_parts_ok (okC e_ref06_value_ok okN)) ad_ref06_Read fuel 22 Tryd.f22 Tryd.func22 (by kernel_rfl) (by kernel_rfl) sg_ref06_Read
theorem e_law06_AddrTells_ok : OkE e_law06_AddrTells := @okF es_law06_AddrTells (okC e_law06_awake_ok (okC e_addr_Short_ok (okC e_ref06_Short_ok (okC e_addr_Long_ok (okC e_ref06_Long_ok (okC e_addr_Family_ok (okC e_ref06_Family_ok (okC e_addr_Link_ok (okC e_ref06_Link_ok (okC e_addr_Map_ok (okC e_ref06_Map_ok (okC e_addr_Unmap_ok (okC e_ref06_Unmap_ok (okC e_addr_Text_ok (okC e_ref06_Text_ok (okC e_addr_Read_ok (okC e_ref06_Read_ok okN))))))))))))))))) ad_law06_AddrTells 0 4 Tryd.f4 Tryd.func4 (by kernel_rfl) (by kernel_rfl) sg_law06_AddrTells
theorem e_law06_AddrForms_ok : OkE e_law06_AddrForms := @okF es_law06_AddrForms (okC e_law06_awake_ok (okC e_addr_Long_ok (okC e_addr_Short_ok (okC e_addr_Map_ok (okC e_addr_Unmap_ok (okC e_addr_Link_ok okN)))))) ad_law06_AddrForms 0 5 Tryd.f5 Tryd.func5 (by kernel_rfl) (by kernel_rfl) sg_law06_AddrForms
end Go.VI
