import Derived.Test.YtbjjekbhopgonaaGreatKcFH
set_option linter.unusedVariables false
set_option linter.unusedSimpArgs false
set_option maxRecDepth 1000000
set_option maxHeartbeats 4000000
namespace Go.VI
open Go Go.Proofs
theorem dU4 (a0:List UInt8):bo1 (a0,()) =
 if (decide (65531 < (a0.length:Int)))=true then some ((([]:List UInt8),false,()),()) else ((a39 ((a0.length:Int),2,())).bind fun r1=>(if a10 (2+r1.1.1.length)=true then (if a10 ((([42,2]:List UInt8)++r1.1.1).length+a0.length)=true then some ((((([42,2]:List UInt8)++r1.1.1)++a0),true,()),()) else none) else none)):=by kernel_rfl
theorem dr5 (n:Nat) (a0:List a00):bB6 n (a0,()) =
 aI8 n n a0 0:=by kernel_rfl
theorem bs4 (n m:Nat) (a0:List a00) (x5:Int):aI8 n (m+1) a0 x5 =
 if (decide (x5 < (a0.length:Int)))=true then (if 0≤x5 then (a0[x5.toNat]?.bind fun (y1:a00)=>((ax1 (y1,())).bind fun r2=>(if (!r2.1.1)=true then some ((([]:List UInt8),x5,1,()),()) else (aI8 n m a0 (IntKind.wrap .i64 (x5+1)))))) else none) else (aI9 n n a0 ([]:List UInt8) ([]:List UInt8) ([]:List UInt8) ([]:List UInt8) ([]:List UInt8) ([]:List UInt8) ([]:List UInt8) ([]:List UInt8) 0):=by kernel_rfl
theorem bs5 (n m:Nat) (a0:List a00) (x6:List UInt8) (x7_0:List UInt8) (x7_1:List UInt8) (x7_2:List UInt8) (x7_3:List UInt8) (x7_4:List UInt8) (x7_5:List UInt8) (x7_6:List UInt8) (x8:Int):aI9 n (m+1) a0 x6 x7_0 x7_1 x7_2 x7_3 x7_4 x7_5 x7_6 x8 =
 if (decide (x8 < (a0.length:Int)))=true then (if 0≤x8 then (a0[x8.toNat]?.bind fun (y3:a00)=>((bH3 ((a03.mk x7_0 x7_1 x7_2 x7_3 x7_4 x7_5 x7_6),y3,())).bind fun r4=>(if (r4.1.2.2.1 != 0)=true then some ((([]:List UInt8),x8,r4.1.2.2.1,()),()) else (if a10 (x6.length+r4.1.1.length)=true then (if (decide (65531 < ((x6++r4.1.1).length:Int)))=true then some ((([]:List UInt8),x8,10,()),()) else (aI9 n m a0 (x6++r4.1.1) r4.1.2.1.prefix_c0 r4.1.2.1.prefix_c1 r4.1.2.1.prefix_c2 r4.1.2.1.prefix_c3 r4.1.2.1.next_c0 r4.1.2.1.next_c1 r4.1.2.1.id (IntKind.wrap .i64 (x8+1)))) else none)))) else none) else ((bo1 (x6,())).bind fun r5=>some ((r5.1.1,0,0,()),())):=by kernel_rfl
theorem dr6 (a0:Int) (a1:List a00):b00 (a0,a1,()) =
 if (a0==1)=true then ((bA8 (a1,())).bind fun r1=>some ((r1.1.1,r1.1.2.1,r1.1.2.2.1,()),())) else (if (a0==2)=true then ((bB0 (a1,())).bind fun r2=>some ((r2.1.1,r2.1.2.1,r2.1.2.2.1,()),())) else (if (a0==3)=true then ((bB2 (a1,())).bind fun r3=>some ((r3.1.1,r3.1.2.1,r3.1.2.2.1,()),())) else (if (a0==4)=true then ((bB7 (a1,())).bind fun r4=>some ((r4.1.1,r4.1.2.1,r4.1.2.2.1,()),())) else some ((([]:List UInt8),0,1,()),())))):=by kernel_rfl
theorem dl0 (n:Nat) (a0:List a00) (a1:List a00):bo5 n (a0,a1,()) =
 if ((a0.length:Int) != (a1.length:Int))=true then some ((false,()),()) else (aB4 n n a0 a1 0):=by kernel_rfl
theorem bp0 (n m:Nat) (a0:List a00) (a1:List a00) (x5:Int):aB4 n (m+1) a0 a1 x5 =
 if (decide (x5 < (a0.length:Int)))=true then (if 0≤x5 then (a0[x5.toNat]?.bind fun (y1:a00)=>(if 0≤x5 then (a1[x5.toNat]?.bind fun (y2:a00)=>((a76 (y1,y2,())).bind fun r3=>(if (!r3.1.1)=true then some ((false,()),()) else (aB4 n m a0 a1 (IntKind.wrap .i64 (x5+1)))))) else none)) else none) else some ((true,()),()):=by kernel_rfl
theorem cM9 (n:Nat) (a0:Int) (a1:List a00) (a2:List UInt8):aU9 n (a0,a1,a2,()) =
 (bu0 (a1,30,())).bind fun r1=>(if (!r1.1.1)=true then ((aw8 ()).bind fun r2=>some ((r2.1.1,()),())) else (if (decide (1500 < (a2.length:Int)))=true then ((aw8 ()).bind fun r3=>some ((r3.1.1,()),())) else (ar8 n n a0 a1 a2 0))):=by kernel_rfl
theorem b15 (n m:Nat) (a0:Int) (a1:List a00) (a2:List UInt8) (x7:Int):ar8 n (m+1) a0 a1 a2 x7 =
 if (decide (x7 < (a1.length:Int)))=true then (if 0≤x7 then (a1[x7.toNat]?.bind fun (y4:a00)=>((b64 (a0,y4,())).bind fun r5=>(if 0≤x7 then (a1[x7.toNat]?.bind fun (y6:a00)=>((b73 (a0,y6,())).bind fun r7=>(if (!(r5.1.1==r7.1.1))=true then some ((false,()),()) else (ar8 n m a0 a1 a2 (IntKind.wrap .i64 (x7+1)))))) else none))) else none) else ((b58 (a0,a2,())).bind fun r8=>((b83 (a0,a2,())).bind fun r9=>((aY2 (a0,a1,())).bind fun r10=>((b00 (a0,a1,())).bind fun r11=>((aw8 ()).bind fun r12=>(if r12.1.1=true then ((aR7 (r8.1.1,r9.1.1,())).bind fun r13=>(if r13.1.1=true then (if (r8.1.2.1==r9.1.2.1)=true then (if (r8.1.2.2.1==r9.1.2.2.1)=true then (if (r10.1.1==r11.1.1)=true then (if (r10.1.2.1==r11.1.2.1)=true then some (((r10.1.2.2.1==r11.1.2.2.1),()),()) else some ((false,()),())) else some ((false,()),())) else some ((false,()),())) else some ((false,()),())) else some ((false,()),()))) else some ((false,()),()))))))):=by kernel_rfl
end Go.VI
