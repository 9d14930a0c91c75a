import Derived.Test.YtjdlhgdklmkkhaaGreatK3KDesk
set_option linter.unusedVariables false
set_option linter.unusedSimpArgs false
set_option maxRecDepth 100000
namespace Go.Proofs
open Go.RowKit Go.Maps
theorem eM0:Go.VP.kindW [97,99,107]=8:=by decide
set_option maxHeartbeats 4000000 in
theorem Tryz.awake30_w (w:World) :
  Calls Tryz.prog 8 #[] w fun e w'=>e=.returned (.bool true)∧Below w.heap.size w w':=by
 go_enter Tryz.func8,Tryz.ntmps8
 go_wp2_with fail
 refine (Tryz.new_d w.heap.size w (Nat.le_refl _)).mono ?_
 rintro e w1 ⟨rfl,h1,hb1⟩
 have H1:=Lib.hid h1
 have HB1:=Lib.hid hb1
 clear h1 hb1
 go_wp2_with fail
 refine (Tryz.close_d H1.out (.inl rfl)).mono ?_
 rintro e w2 ⟨rfl,h2,hb2⟩
 have H2:=Lib.hid h2
 have HB2:=Lib.hid (HB1.out.trans hb2)
 clear h2 hb2 H1 HB1
 go_wp2_with fail
 refine (Tryz.close_d H2.out (.inr rfl)).mono ?_
 rintro e w3 ⟨rfl,h3,hb3⟩
 have H3:=Lib.hid h3
 have HB3:=Lib.hid (HB2.out.trans hb3)
 have c4:w3.cell? ⟨w.heap.size,4,none⟩=some (.int .u32 1):=by
  obtain ⟨c2,c5,c6,c7,hr⟩:=h3.row
  exact Lib.cell_of_heap hr 4
 have C4:=Lib.hid c4
 clear h3 hb3 H2 HB2 c4
 go_wp2_with fail
 refine (Tryz.parse_shut w.heap.size 4 ⟨#[42,2,0,0]⟩ w3 C4.out).mono ?_
 rintro e w4 ⟨rfl,rfl⟩
 clear C4
 go_wp2_with fail
 refine (Tryz.kind_d [97,99,107] (by decide) H3.out).mono ?_
 rintro e w5 ⟨rfl,M,h5,hb5⟩
 have HB5:=Lib.hid (HB3.out.trans hb5)
 rw [eM0]
 clear h5 hb5 H3 HB3
 go_wp2_with fail
 go_ret
 exact ⟨rfl,HB5.out⟩
end Go.Proofs
