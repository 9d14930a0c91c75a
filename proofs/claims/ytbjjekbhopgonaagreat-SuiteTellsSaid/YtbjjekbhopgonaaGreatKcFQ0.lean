import Derived.Test.YtbjjekbhopgonaaGreatKcFH
set_option linter.unusedVariables false
set_option linter.unusedSimpArgs false
set_option maxRecDepth 1000000
set_option maxHeartbeats 4000000
namespace Go.VI
open Go Go.Proofs
theorem e70 (n:Nat) (a0:a00):cv8 n (a0,()) =
 if (decide (300 < (a0.list.length:Int)))=true then some ((false,()),()) else (if (decide (60 < (a0.subs.length:Int)))=true then some ((false,()),()) else (if (decide (200 < (IntKind.wrap .i64 ((a0.auth.length:Int)+(a0.prefix_.length:Int)))))=true then some ((false,()),()) else (if (decide (200 < (IntKind.wrap .i64 ((a0.next.length:Int)+(a0.id.length:Int)))))=true then some ((false,()),()) else (if (decide (200 < (IntKind.wrap .i64 ((a0.addr.length:Int)+(a0.orig.length:Int)))))=true then some ((false,()),()) else (if (decide (300 < (a0.data.length:Int)))=true then some ((false,()),()) else (b50 n n a0 0)))))):=by kernel_rfl
theorem cj4 (n m:Nat) (a0:a00) (x3:Int):b50 n (m+1) a0 x3 =
 if (decide (x3 < (a0.list.length:Int)))=true then (if 0≤x3 then (a0.list[x3.toNat]?.bind fun (y1:a44)=>(if (decide (50 < (y1.addr.length:Int)))=true then some ((false,()),()) else (b50 n m a0 (IntKind.wrap .i64 (x3+1))))) else none) else (b51 n n a0 0):=by kernel_rfl
theorem cj5 (n m:Nat) (a0:a00) (x4:Int):b51 n (m+1) a0 x4 =
 if (decide (x4 < (a0.subs.length:Int)))=true then (if 0≤x4 then (a0.subs[x4.toNat]?.bind fun (y2:a08)=>(if (decide (300 < (y2.data.length:Int)))=true then some ((false,()),()) else (b51 n m a0 (IntKind.wrap .i64 (x4+1))))) else none) else some ((true,()),()):=by kernel_rfl
theorem dr7 (n:Nat) (a0:List a00) (a1:Int):bt9 n (a0,a1,()) =
 if (decide (a1 < (a0.length:Int)))=true then some ((false,()),()) else (aG9 n n a0 0):=by kernel_rfl
theorem bs6 (n m:Nat) (a0:List a00) (x5:Int):aG9 n (m+1) a0 x5 =
 if (decide (x5 < (a0.length:Int)))=true then (if 0≤x5 then (a0[x5.toNat]?.bind fun (y1:a00)=>((cv9 (y1,())).bind fun r2=>(if (!r2.1.1)=true then some ((false,()),()) else (aG9 n m a0 (IntKind.wrap .i64 (x5+1)))))) else none) else some ((true,()),()):=by kernel_rfl
theorem dU5 (n:Nat) (a0:List UInt8):c62 n (a0,()) =
 aW9 n n a0 0:=by kernel_rfl
theorem bY3 (n m:Nat) (a0:List UInt8) (x8:Int):aW9 n (m+1) a0 x8 =
 if (decide (x8 < (a0.length:Int)))=true then (if 0≤x8 then (a0[x8.toNat]?.bind fun (y1:UInt8)=>(if ((y1.toNat:Int) != 0)=true then some ((false,()),()) else (aW9 n m a0 (IntKind.wrap .i64 (x8+1))))) else none) else some ((true,()),()):=by kernel_rfl
theorem en1 (a0:List UInt8):bZ9 (a0,()) =
 if (decide ((a0.length:Int) < 4))=true then some (((a0.length:Int),2,()),()) else (a0[0]?.bind fun (y1:UInt8)=>(if ((y1.toNat:Int) != 1)=true then (a0[0]?.bind fun (y2:UInt8)=>(if ((y2.toNat:Int) != 2)=true then some ((0,4,()),()) else (a0[1]?.bind fun (y3:UInt8)=>(if ((y3.toNat:Int) != 1)=true then (a0[1]?.bind fun (y4:UInt8)=>(if ((y4.toNat:Int) != 2)=true then some ((1,4,()),()) else (if 0≤(2:Int)∧(2:Int)≤(4:Int)∧(4:Int)≤(a0.length:Int) then ((a49 (((a0.take 4).drop 2),())).bind fun r5=>(if (!r5.1.1)=true then some ((2,5,()),()) else (if (decide (0 < ((IntKind.wrap .i64 ((a0.length:Int) - 4)).tmod 20)))=true then some (((a0.length:Int),2,()),()) else (if ((a0.length:Int)==4)=true then some (((a0.length:Int),8,()),()) else (if (decide (25 < (IntKind.wrap .i64 ((IntKind.wrap .i64 ((a0.length:Int) - 4)).tdiv 20))))=true then some ((504,8,()),()) else some ((0,0,()),())))))) else none))) else (if 0≤(2:Int)∧(2:Int)≤(4:Int)∧(4:Int)≤(a0.length:Int) then ((a49 (((a0.take 4).drop 2),())).bind fun r6=>(if (!r6.1.1)=true then some ((2,5,()),()) else (if (decide (0 < ((IntKind.wrap .i64 ((a0.length:Int) - 4)).tmod 20)))=true then some (((a0.length:Int),2,()),()) else (if ((a0.length:Int)==4)=true then some (((a0.length:Int),8,()),()) else (if (decide (25 < (IntKind.wrap .i64 ((IntKind.wrap .i64 ((a0.length:Int) - 4)).tdiv 20))))=true then some ((504,8,()),()) else some ((0,0,()),())))))) else none))))) else (a0[1]?.bind fun (y7:UInt8)=>(if ((y7.toNat:Int) != 1)=true then (a0[1]?.bind fun (y8:UInt8)=>(if ((y8.toNat:Int) != 2)=true then some ((1,4,()),()) else (if 0≤(2:Int)∧(2:Int)≤(4:Int)∧(4:Int)≤(a0.length:Int) then ((a49 (((a0.take 4).drop 2),())).bind fun r9=>(if (!r9.1.1)=true then some ((2,5,()),()) else (if (decide (0 < ((IntKind.wrap .i64 ((a0.length:Int) - 4)).tmod 20)))=true then some (((a0.length:Int),2,()),()) else (if ((a0.length:Int)==4)=true then some (((a0.length:Int),8,()),()) else (if (decide (25 < (IntKind.wrap .i64 ((IntKind.wrap .i64 ((a0.length:Int) - 4)).tdiv 20))))=true then some ((504,8,()),()) else some ((0,0,()),())))))) else none))) else (if 0≤(2:Int)∧(2:Int)≤(4:Int)∧(4:Int)≤(a0.length:Int) then ((a49 (((a0.take 4).drop 2),())).bind fun r10=>(if (!r10.1.1)=true then some ((2,5,()),()) else (if (decide (0 < ((IntKind.wrap .i64 ((a0.length:Int) - 4)).tmod 20)))=true then some (((a0.length:Int),2,()),()) else (if ((a0.length:Int)==4)=true then some (((a0.length:Int),8,()),()) else (if (decide (25 < (IntKind.wrap .i64 ((IntKind.wrap .i64 ((a0.length:Int) - 4)).tdiv 20))))=true then some ((504,8,()),()) else some ((0,0,()),())))))) else none))))):=by kernel_rfl
theorem ao9 (a0:List UInt8) (a1:List UInt8):ac4 (a0,a1,()) =
 if (decide ((a1.length:Int)≤(a0.length:Int)))=true then (if 0≤(a1.length:Int)∧(a1.length:Int)≤(a0.length:Int) then some ((((a0.take (a1.length:Int).toNat)==a1),()),()) else none) else some ((false,()),()):=by kernel_rfl
theorem b07 (a0:List UInt8) (a1:List UInt8):ah9 (a0,a1,()) =
 (ac4 (a0,a1,())).bind fun r1=>(if (!r1.1.1)=true then some ((a0,false,()),()) else (if 0≤(a1.length:Int)∧(a1.length:Int)≤(a0.length:Int) then some (((a0.drop (a1.length:Int).toNat),true,()),()) else none)):=by kernel_rfl
theorem cA7 (a0:List UInt8) (a1:List UInt8):aO1 (a0,a1,()) =
 (ah9 (a0,a1,())).bind fun r1=>some ((r1.1.1,r1.1.2.1,()),()):=by kernel_rfl
theorem en2 (a0:List UInt8):c00 (a0,()) =
 (aO1 (a0,([255,255]:List UInt8),())).bind fun r1=>(if (!r1.1.2.1)=true then some ((([]:List UInt8),false,()),()) else (if ((r1.1.1.length:Int) != 18)=true then some ((([]:List UInt8),false,()),()) else some ((r1.1.1,true,()),()))):=by kernel_rfl
theorem dU6 (a0:List UInt8):ab8 (a0,()) =
 some (((a34.mk a0 0 (a0.length:Int) false),()),()):=by kernel_rfl
theorem cj6 (a0:a34) (a1:Int):aw4 (a0,a1,()) =
 if a0.bad=true then some (((a34.mk a0.s a0.at_ a0.end_ true),false,()),()) else (if (decide (a1 < 0))=true then some (((a34.mk a0.s a0.at_ a0.end_ true),false,()),()) else (if (decide ((IntKind.wrap .i64 (a0.end_ - a0.at_)) < a1))=true then some (((a34.mk a0.s a0.at_ a0.end_ true),false,()),()) else some (((a34.mk a0.s (IntKind.wrap .i64 (a0.at_+a1)) a0.end_ a0.bad),true,()),()))):=by kernel_rfl
theorem ct4 (n:Nat) (a0:a34) (a1:Int):bg2 n (a0,a1,()) =
 if (decide (a1 < 1))=true then some ((0,(a34.mk a0.s a0.at_ a0.end_ true),()),()) else (if (decide (7 < a1))=true then some ((0,(a34.mk a0.s a0.at_ a0.end_ true),()),()) else ((aw4 (a0,a1,())).bind fun r1=>(if (!r1.1.2.1)=true then some ((0,r1.1.1,()),()) else (if 0≤a0.at_∧a0.at_≤r1.1.1.at_∧r1.1.1.at_≤(a0.s.length:Int) then (aX0 n n r1 0 ((a0.s.take r1.1.1.at_.toNat).drop a0.at_.toNat) (((a0.s.take r1.1.1.at_.toNat).drop a0.at_.toNat).length:Int) 0) else none)))):=by kernel_rfl
theorem bY4 (n m:Nat) (r1:(a34 × Bool × Unit) × Unit) (x8:Int) (x35:List UInt8) (x36:Int) (x37:Int):aX0 n (m+1) r1 x8 x35 x36 x37 =
 if (decide (x37 < x36))=true then (if 0≤x37 then (x35[x37.toNat]?.bind fun (y2:UInt8)=>(aX0 n m r1 (a47 .or .i64 (a91 .i64 x8 8) (IntKind.wrap .i64 (y2.toNat:Int))) x35 x36 (IntKind.wrap .i64 (x37+1)))) else none) else some ((x8,r1.1.1,()),()):=by kernel_rfl
theorem cN0 (a0:ad5) (a1:Int):ai1 (a0,a1,()) =
 (a75 ((a34.mk a0.c_S a0.c_At a0.c_End a0.c_Bad),a1,())).bind fun r1=>some ((r1.1.1,()),((ad5.mk r1.1.2.1.s r1.1.2.1.at_ r1.1.2.1.end_ r1.1.2.1.bad),())):=by kernel_rfl
theorem cj7 (a0:a34) (a1:Int):a62 (a0,a1,()) =
 (aw4 (a0,a1,())).bind fun r1=>(if (!r1.1.2.1)=true then some ((([]:List UInt8),r1.1.1,()),()) else (if 0≤a0.at_∧a0.at_≤r1.1.1.at_∧r1.1.1.at_≤(a0.s.length:Int) then some ((((a0.s.take r1.1.1.at_.toNat).drop a0.at_.toNat),r1.1.1,()),()) else none)):=by kernel_rfl
theorem cA8 (a0:ad5):ag2 (a0,()) =
 (a62 ((a34.mk a0.c_S a0.c_At a0.c_End a0.c_Bad),4,())).bind fun r1=>some ((r1.1.1,()),((ad5.mk r1.1.2.1.s r1.1.2.1.at_ r1.1.2.1.end_ r1.1.2.1.bad),())):=by kernel_rfl
theorem e71 (a0:List UInt8):bE2 (a0,()) =
 if ((a0.length:Int) != 20)=true then some (((a23.mk 0 0 ([]:List UInt8) ([]:List UInt8) ([]:List UInt8) 0),false,()),()) else ((ab8 (a0,())).bind fun r1=>((ai1 ((ad5.mk r1.1.1.s r1.1.1.at_ r1.1.1.end_ r1.1.1.bad),2,())).bind fun r2=>((ai1 (r2.2.1,2,())).bind fun r3=>((ag2 (r3.2.1,())).bind fun r4=>((ag2 (r4.2.1,())).bind fun r5=>((ag2 (r5.2.1,())).bind fun r6=>((ai1 (r6.2.1,4,())).bind fun r7=>some (((a23.mk r2.1.1 r3.1.1 r4.1.1 r5.1.1 r6.1.1 r7.1.1),true,()),())))))))):=by kernel_rfl
theorem e72 (a0:a00):cw2 (a0,()) =
 some (((cv7.mk a0.kind a0.cmd a0.ver a0.family a0.ae a0.plen a0.tag a0.metric a0.seq a0.seq2 a0.interval a0.flags a0.hops a0.nonce a0.cost a0.type_ a0.auth a0.prefix_ a0.next a0.id a0.addr a0.orig a0.data),()),()):=by kernel_rfl
end Go.VI
