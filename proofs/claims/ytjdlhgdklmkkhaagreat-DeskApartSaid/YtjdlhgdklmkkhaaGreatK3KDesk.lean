import Derived.Test.YtjdlhgdklmkkhaaGreatK3KOnce
import Derived.Test.YtjdlhgdklmkkhaaGreatK3KBase
import Derived.Maps.Own
import Derived.Maps.OwnOps
import Derived.Maps.OwnSet
import Derived.Maps.Views
import Derived.Deep.RegionHeld3
import Derived.Lib.Builder
set_option linter.unusedVariables false
set_option linter.unusedSimpArgs false
set_option maxRecDepth 100000
namespace Go.Proofs
open Go.RowKit Go.Maps
def fd8:Array Value:=#[.int .u32 0,.int .i32 0,.int .u32 0,.map none,.int .u32 0,.int .i64 0,.int .i64 0,.int .i64 0]
theorem Tryz.new_w (w:World) :
  Calls Tryz.prog 6 #[] w fun e w'=>e=.returned (.pointer (some ⟨w.heap.size,0,none⟩))∧w'=w.alloc (.cells fd8 68):=by
 go_enter Tryz.func6,Tryz.ntmps6
 go_wp2
 go_ret
 exact ⟨rfl,rfl⟩
theorem Tryz.cas_open (a:Addr) (w:World) (hc:w.cell? a=some (.int .u32 0)) (hz:w.frozen? a=false) :
  Calls Tryz.prog 22 #[.pointer (some a),.bool false,.bool true] w fun e w'=>e=.returned (.bool true)∧w'=w.drew.setCell a (.int .u32 1):=by
 have hc':w.drew.cell? a=some (.int .u32 0):=by go_simp
 have hz':w.drew.frozen? a=false:=by go_simp
 have hcas:=run_call_cas_hit (P:=Tryz.prog) Tryz.func41 (by kernel_rfl) (by kernel_rfl) (by kernel_rfl) .u32 (by kernel_rfl) (y:=1) hc' hz'
 go_enter Tryz.func22,Tryz.ntmps22
 go_wp2
 go_region_calls
 go_wp2
 go_ret
 exact ⟨rfl,rfl⟩
theorem Tryz.cas_shut (a:Addr) (w:World) (hc:w.cell? a=some (.int .u32 1)) (hz:w.frozen? a=false) :
  Calls Tryz.prog 22 #[.pointer (some a),.bool false,.bool true] w fun e w'=>e=.returned (.bool false)∧w'=w.drew:=by
 have hc':w.drew.cell? a=some (.int .u32 1):=by go_simp
 have hz':w.drew.frozen? a=false:=by go_simp
 have hcas:=run_call_cas_miss (P:=Tryz.prog) Tryz.func41 (by kernel_rfl) (by kernel_rfl) (by kernel_rfl) .u32 (by kernel_rfl) (x:=1) (o:=0) (y:=1) hc' hz' (by decide)
 go_enter Tryz.func22,Tryz.ntmps22
 go_wp2
 go_region_calls
 go_wp2
 go_ret
 exact ⟨rfl,rfl⟩
theorem Tryz.close_open (b:Nat) (w:World) (hc:w.cell? ⟨b,4,none⟩=some (.int .u32 0)) (hz:w.frozen? ⟨b,4,none⟩=false) :
  Calls Tryz.prog 10 #[.pointer (some ⟨b,0,none⟩)] w fun e w'=>e=.returned (.bool true)∧w'=w.drew.setCell ⟨b,4,none⟩ (.int .u32 1):=by
 go_enter Tryz.func10,Tryz.ntmps10
 go_wp2_with (go_at_call 22; refine (Tryz.cas_open ⟨b,4,none⟩ _ hc hz).mono ?_; rintro e w' ⟨rfl,rfl⟩)
 go_ret
 exact ⟨rfl,rfl⟩
theorem Tryz.close_shut (b:Nat) (w:World) (hc:w.cell? ⟨b,4,none⟩=some (.int .u32 1)) (hz:w.frozen? ⟨b,4,none⟩=false) :
  Calls Tryz.prog 10 #[.pointer (some ⟨b,0,none⟩)] w fun e w'=>e=.returned (.bool false)∧w'=w.drew:=by
 go_enter Tryz.func10,Tryz.ntmps10
 go_wp2_with (go_at_call 22; refine (Tryz.cas_shut ⟨b,4,none⟩ _ hc hz).mono ?_; rintro e w' ⟨rfl,rfl⟩)
 go_ret
 exact ⟨rfl,rfl⟩
theorem Tryz.parse_shut (b:Nat) (p:Int) (s:ByteArray) (w:World) (hc:w.cell? ⟨b,4,none⟩=some (.int .u32 1)) :
  Calls Tryz.prog 17 #[.pointer (some ⟨b,0,none⟩),.int .i64 p,.string s] w fun e w'=>e=.returned (.tuple #[.slice none 0 0,.int .i64 0,.int .i64 12])∧w'=w:=by
 have hl:=run_call_load (P:=Tryz.prog) Tryz.func45 (by kernel_rfl) (by kernel_rfl) (by kernel_rfl) .u32 (by kernel_rfl) (w:=w) (a:=⟨b,4,none⟩) (x:=1) hc
 go_enter Tryz.func17,Tryz.ntmps17
 go_wp2
 go_ret3
 exact ⟨rfl,rfl⟩
theorem Tryz.keyed:Keyed Tryz.prog 9:=string_keyed Tryz.underlying9
def bE0:Nat→DataW Unit
 | 0=>.map []
 | n+1=>(bE0 n).put (.string (Go.VP.wordM ((n+1:Nat):Int))) (.lit (.int .i64 ((n+1:Nat):Int)))
theorem eL9 {k:Nat} (h:1≤k):bE0 k=(bE0 (k - 1)).put (.string (Go.VP.wordM (k:Int))) (.lit (.int .i64 (k:Int))):=by
 obtain ⟨j,rfl⟩:∃ j,k=j+1:=⟨k - 1,by omega⟩
 rfl
theorem dR1:∀ n,IsMap (bE0 n)
 | 0=>isMap_empty
 | n+1=>(dR1 n).put _ _
theorem dW8 {H:Type} {P:Program} {k:TypeId} {R:Value→Option (DataW H × List MemPlace)} {b n B:Nat} {D:DataW H} {w w':World} (h:w.ownsMap P k R b n D) (hb:Below B w w') (hB:b < B):w'.ownsMap P k R b n D:=by
 obtain ⟨es,clock,hh,rest⟩:=h
 exact ⟨es,clock,(hb.block b hB).trans hh,rest⟩
set_option maxHeartbeats 2000000 in
theorem Tryz.table_w (b:Nat) (old:Value) (w:World) (hc:w.cell? ⟨b,3,none⟩=some old) (hz:w.frozen? ⟨b,3,none⟩=false) :
  Calls Tryz.prog 33 #[.pointer (some ⟨b,0,none⟩)] w fun e w'=>e=.returned (.tuple #[])∧
   w'.ownsMap Tryz.prog 9 (plainElem Tryz.prog 3) w.heap.size 14 (bE0 14)∧Below w.heap.size (w.setCell ⟨b,3,none⟩ (.map (some w.heap.size))) w':=by
 have hmm:=@run_makeMap Tryz.prog
 have hb:b < w.heap.size:=World.block_lt_of_cell? w _ hc
 go_enter Tryz.func33,Tryz.ntmps33
 go_wp2
 obtain ⟨M,hM⟩:∃ M,M=w.heap.size:=⟨_,rfl⟩
 have HM:=Lib.hid hM
 obtain ⟨w0,hw0⟩:∃ w0,w0=w.setCell ⟨b,3,none⟩ (.map (some M)):=⟨_,rfl⟩
 have HW:=Lib.hid hw0
 have hs0:w0.heap.size=M:=by rw [hw0,hM]; simp
 have hc0:w0.cell? ⟨b,3,none⟩=some (.map (some M)):=by rw [hw0]; exact World.cell?_setCell_same w _ _ hc
 rw [← hM] at hb ⊢
 rw [← hw0]
 have hown0:(w0.alloc (Obj.map #[] 0)).ownsMap Tryz.prog 9 (plainElem (H:=Unit) Tryz.prog 3) M 0 (bE0 0):=by rw [← hs0]; exact World.ownsMap_made _ _ _ _
 have hbel0:Below M w0 (w0.alloc (Obj.map #[] 0)):=(Below.refl _ w0).alloc (by omega) _
 generalize w0.alloc (Obj.map #[] 0)=W1 at hown0 hbel0 ⊢
 clear hw0 hM hz hc hmm
 go_loopw [2] (fun i wr=>∃ k:Nat,1≤k∧k≤15∧i=.int .i64 k∧wr.ownsMap Tryz.prog 9 (plainElem (H:=Unit) Tryz.prog 3) M (k - 1) (bE0 (k - 1))∧Below M w0 wr) (fun i _=>15 - (RowKit.intOf i).toNat)
 case atStart=>exact ⟨1,by decide,by decide,rfl,hown0,hbel0⟩
 case round=>
  obtain ⟨k,hk1,hk,rfl,hown,hbel⟩:=hrel
  rename World=>W
  have hlt:=hown.lt
  have hcW:W.cell? ⟨b,3,none⟩=some (.map (some M)):=(hbel.cell (by exact hb)).trans hc0
  by_cases h14:k≤14
  ·have hkw:(Lit.int .i64 (k:Int)).wf=true:=WalkArith.wf_i64 (by omega)
   have HK:=Lib.hid hkw
   have HO:=Lib.hid hown
   have HL:=Lib.hid hbel
   clear hkw hown hbel
   go_wp2
   have hS0:W.drew.cell? ⟨b,3,none⟩=some (.map (some M)):=by rw [World.cell?_drew]; exact hcW
   have hS1:W.drew.ownsMap Tryz.prog 9 (plainElem (H:=Unit) Tryz.prog 3) M (k - 1) (bE0 (k - 1)):=HO.out.drew
   have hS2:Below M w0 W.drew:=HL.out.trans (bY5 _ _)
   have hS3:M < W.drew.heap.size:=hlt
   go_region_held3 (fun W'=>W'.cell? ⟨b,3,none⟩=some (.map (some M))∧M < W'.heap.size)
    (first | exact ⟨hS0,hS3⟩ | assumption | exact ⟨(hb'.cell (Nat.lt_trans hb hS3)).trans hS0,Nat.lt_of_lt_of_le hS3 hb'.size⟩ | exact ⟨hgrow2.cell ((hb'.cell (Nat.lt_trans hb hS3)).trans hS0) (by simp; omega),Nat.lt_of_lt_of_le (Nat.lt_of_lt_of_le hS3 hb'.size) hgrow2.size⟩)
    (first
     | (go_at_call 52; refine (Tryz.word_w (k:Int) _ (by omega) trivial (Nat.zero_le _)).mono ?_; rintro e w' ⟨rfl,hb'⟩)
     | (obtain ⟨w2,hrun,hown2,hgrow2⟩:=(dW8 hS1 hb' hS3).update (t:=63) (e:=3) Tryz.keyed Tryz.underlying63 (by unfold maxLen; omega) (key:=.string ⟨⟨Go.VP.wordM (k:Int)⟩⟩) (Go.WideMaps.keyOf_string_mk Tryz.underlying9 (by have:=Go.VP.wordM_len (k:Int); show (Go.VP.wordM (k:Int)).length≤maxLen; unfold maxLen; omega)) (plainElem_int Tryz.underlying3 HK.out); rw [hrun]; simp only [Result.andThen]))
   have HB2:=Lib.hid (((hS2.trans (hb'.mono (Nat.le_of_lt hS3))).grown hgrow2 (Nat.le_of_lt (Nat.lt_of_lt_of_le hS3 hb'.size)) (fun j hj=>by cases hj; exact Nat.le_refl _)))
   have HO2:Hid (w2.ownsMap Tryz.prog 9 (plainElem (H:=Unit) Tryz.prog 3) M k (bE0 k)):=by rw [eL9 hk1]; rw [show k - 1+1=k by omega] at hown2; exact hown2
   clear hown2 hgrow2 hb' hS0 hS1 hS2 hS3
   go_wp2
   go_roundw
   case rel=>exact ⟨k+1,by omega,by omega,by go_num,HO2.out,HB2.out⟩
   case measure=>simp [RowKit.intOf]; omega
  ·obtain rfl:k=15:=by omega
   have HO:=Lib.hid hown
   have HL:=Lib.hid hbel
   clear hown hbel
   go_wp2
   go_end0
   rw [← HM.out,← HW.out]
   exact ⟨rfl,HO.out,HL.out⟩
theorem eB8 (s:List UInt8):∀ n,(bE0 n).atKey (.string s) (.lit (.int .i64 0))=.lit (.int .i64 (Go.VP.kindT s n))
 | 0=>rfl
 | n+1=>by
  unfold bE0 Go.VP.kindT
  by_cases h:Go.VP.wordM ((n+1:Nat):Int)=s
  ·rw [if_pos h,h]; exact atKey_put_same (dR1 n) (show WideAt.IsKeyLit (.string s) from trivial) _ _
  ·rw [if_neg h,atKey_put_other (fun e=>h (by injection e with e; exact e.symm)),eB8 s n]
structure bH0 (B b:Nat) (w:World) (dn:Option Nat) (cl:Int):Prop where
 hB:B≤b
 row:∃ c2 c5 c6 c7,w.heap[b]?=some (.cells #[.int .u32 (if dn.isSome then 1 else 0),.int .i32 0,c2,.map dn,.int .u32 cl,c5,c6,c7] 68 (0,0))
 tab:∀ M,dn=some M→B≤M∧w.ownsMap Tryz.prog 9 (plainElem (H:=Unit) Tryz.prog 3) M 14 (bE0 14)
theorem bH0.ne {B b M:Nat} {w:World} {dn:Option Nat} {cl:Int} (h:bH0 B b w dn cl) (hM:dn=some M):M≠b:=by
 obtain ⟨_,es,clock,hh,_⟩:=h.tab M hM
 obtain ⟨_,_,_,_,hr⟩:=h.row
 intro e
 subst e
 rw [hh] at hr
 cases hr
theorem bH0.lt {B b:Nat} {w:World} {dn:Option Nat} {cl:Int} (h:bH0 B b w dn cl):b < w.heap.size:=by
 obtain ⟨_,_,_,_,hr⟩:=h.row
 exact (Array.getElem?_eq_some_iff.1 hr).1
theorem Tryz.new_d (B:Nat) (w:World) (hB:B≤w.heap.size) :
  Calls Tryz.prog 6 #[] w fun e w'=>e=.returned (.pointer (some ⟨w.heap.size,0,none⟩))∧bH0 B w.heap.size w' none 0∧Below B w w':=by
 refine (Tryz.new_w w).mono ?_
 rintro e w' ⟨rfl,rfl⟩
 exact ⟨rfl,⟨hB,⟨_,_,_,_,heap_alloc_new w _⟩,fun M h=>by cases h⟩,(Below.refl _ w).alloc hB _⟩
theorem cw2 {H:Type} {P:Program} {k:TypeId} {R:Value→Option (DataW H × List MemPlace)} {b n:Nat} {D:DataW H} {w:World} (h:w.ownsMap P k R b n D) {a:Addr} (ha:b≠a.block) (u:Value):(w.setCell a u).ownsMap P k R b n D:=h.setCell ha u
theorem Tryz.close_d {B b:Nat} {w:World} {dn:Option Nat} {cl:Int} (h:bH0 B b w dn cl) (hcl:cl=0∨cl=1) :
  Calls Tryz.prog 10 #[.pointer (some ⟨b,0,none⟩)] w fun e w'=>e=.returned (.bool (decide (cl=0)))∧bH0 B b w' dn 1∧Below B w w':=by
 have hB:=h.hB
 have hne:=fun M hM=>h.ne (M:=M) hM
 have htab:=h.tab
 obtain ⟨c2,c5,c6,c7,hr⟩:=h.row
 have c4:=(Lib.cell_of_heap hr 4)
 have z4:=(Lib.frozen_of_heap hr 4)
 rcases hcl with rfl | rfl
 ·refine (Tryz.close_open b w c4 z4).mono ?_
  rintro e w' ⟨rfl,rfl⟩
  refine ⟨rfl,⟨hB,⟨c2,c5,c6,c7,?_⟩,fun M hM=>?_⟩,((bY5 w B)).setCell (p:=⟨b,4,none⟩) hB _⟩
  ·rw [heap_setCell_same w.drew b 4 _ _ _ hr]; rfl
  ·exact ⟨(htab M hM).1,cw2 (htab M hM).2.drew (hne M hM) _⟩
 ·refine (Tryz.close_shut b w c4 z4).mono ?_
  rintro e w' ⟨rfl,rfl⟩
  exact ⟨rfl,⟨hB,⟨c2,c5,c6,c7,hr⟩,fun M hM=>⟨(htab M hM).1,(htab M hM).2.drew⟩⟩,bY5 w B⟩
set_option maxHeartbeats 2000000 in
theorem Tryz.kind_d {B b:Nat} {w:World} {dn:Option Nat} {cl:Int} (s:List UInt8) (hs:s.length≤1000000) (h:bH0 B b w dn cl) :
  Calls Tryz.prog 19 #[.pointer (some ⟨b,0,none⟩),.string ⟨⟨s⟩⟩] w fun e w'=>e=.returned (.int .i64 (Go.VP.kindW s))∧∃ M,bH0 B b w' (some M) cl∧Below B w w':=by
 have hzero:∀ W,(zeroValue 3).run Tryz.prog W=.ok (.int .i64 0) W:=fun W=>by kernel_rfl
 have hkey:keyOf Tryz.prog 9 (.string ⟨⟨s⟩⟩)=some (.string s):=Go.WideMaps.keyOf_string_mk Tryz.underlying9 (by show s.length≤maxLen; unfold maxLen; omega)
 have hdo:Calls Tryz.prog 32 #[.pointer (some ⟨b,0,none⟩),.func (.func 33) #[.pointer (some ⟨b,0,none⟩)] #[]] w fun e w'=>e=.returned (.tuple #[])∧∃ M,bH0 B b w' (some M) cl∧Below B w w':=by
  have hB:=h.hB
  have hlt:=h.lt
  have htab:=h.tab
  obtain ⟨c2,c5,c6,c7,hr⟩:=h.row
  cases dn with
  | some M=>
   refine (Tryz.do_done b _ w (Lib.cell_of_heap hr 0)).mono ?_
   rintro e w' ⟨rfl,rfl⟩
   exact ⟨rfl,M,h,Below.refl _ _⟩
  | none=>
   have hr1:=heap_setCell_same w b 1 _ _ (.int .i32 1) hr
   have hT:=Tryz.table_w b (.map none) (w.setCell ⟨b,1,none⟩ (.int .i32 1)) (Lib.cell_of_heap hr1 3) (Lib.frozen_of_heap hr1 3)
   have hz1:(w.setCell ⟨b,1,none⟩ (.int .i32 1)).heap.size=w.heap.size:=by simp
   rw [hz1] at hT
   have hr3:=heap_setCell_same (w.setCell ⟨b,1,none⟩ (.int .i32 1)) b 3 _ _ (.map (some w.heap.size)) hr1
   refine (Tryz.do_first b w (fun w1=>w1.ownsMap Tryz.prog 9 (plainElem (H:=Unit) Tryz.prog 3) w.heap.size 14 (bE0 14)∧Below w.heap.size ((w.setCell ⟨b,1,none⟩ (.int .i32 1)).setCell ⟨b,3,none⟩ (.map (some w.heap.size))) w1) (Lib.cell_of_heap hr 0) (Lib.cell_of_heap hr 1) (Lib.frozen_of_heap hr 0) (Lib.frozen_of_heap hr 1) (hT.mono ?_)).mono ?_
   ·rintro e w1 ⟨rfl,h1,h2⟩
    have hr4:=(h2.block b (by simpa using hlt)).trans hr3
    exact ⟨rfl,⟨h1,h2⟩,Lib.cell_of_heap hr4 0,Lib.cell_of_heap hr4 1,Lib.frozen_of_heap hr4 0,Lib.frozen_of_heap hr4 1⟩
   ·rintro e w' ⟨rfl,w1,⟨h1,h2⟩,rfl⟩
    have hr4:w1.drew.heap[b]?=_:=(h2.block b (by simpa using hlt)).trans hr3
    have hr5:=heap_setCell_same w1.drew b 0 _ _ (.int .u32 1) hr4
    have hr6:=heap_setCell_same _ b 1 _ _ (.int .i32 0) hr5
    have hMb:w.heap.size≠b:=by omega
    refine ⟨rfl,w.heap.size,⟨hB,⟨c2,c5,c6,c7,hr6⟩,fun M hM=>?_⟩,?_⟩
    ·obtain rfl:w.heap.size=M:=Option.some.inj hM
     exact ⟨by omega,cw2 (cw2 h1.drew hMb _) hMb _⟩
    ·have hb0:=(((Below.refl B w).setCell (p:=⟨b,1,none⟩) hB (.int .i32 1)).setCell (p:=⟨b,3,none⟩) hB (.map (some w.heap.size))).trans (h2.mono (by omega))
     exact ((hb0.trans (bY5 _ _)).setCell (p:=⟨b,0,none⟩) hB _).setCell (p:=⟨b,1,none⟩) hB _
 have HD:=Lib.hid hdo
 clear hdo
 go_enter Tryz.func19,Tryz.ntmps19
 go_wp2_with (first
  | (go_at_call 32; refine HD.out.mono ?_; rintro e w1 ⟨rfl,M,h1,hb1⟩; have H1:=Lib.hid h1; have HB1:=Lib.hid hb1; have c3:w1.cell? ⟨b,3,none⟩=some (.map (some M)):=(by obtain ⟨c2,c5,c6,c7,hr⟩:=h1.row; exact Lib.cell_of_heap hr 3); have HO:=Lib.hid (h1.tab M rfl).2; clear h1 hb1)
  | (at_lookup; refine wpList_lookup_own_int _ rfl _ _ 63 rfl 9 3 .i64 Tryz.keyed Tryz.underlying63 Tryz.underlying3 (hzero _) M 14 _ rfl HO.out _ _ rfl hkey ?_; intro c hat hwc))
 rw [eB8,Go.VP.kindT_W] at hat
 injection hat with hat
 injection hat with _ hat
 go_ret
 subst hat
 exact ⟨rfl,M,H1.out,HB1.out⟩
end Go.Proofs
