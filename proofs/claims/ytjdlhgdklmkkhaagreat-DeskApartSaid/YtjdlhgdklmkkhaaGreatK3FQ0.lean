import Derived.Test.YtjdlhgdklmkkhaaGreatK3FH
set_option linter.unusedVariables false
set_option linter.unusedSimpArgs false
set_option maxRecDepth 1000000
set_option maxHeartbeats 4000000
namespace Go.VI
open Go Go.Proofs
theorem dI2 (n:Nat) (a0:aa0):cr8 n (a0,()) =
 if (decide (300 < (a0.list.length:Int)))=true then some ((false,()),()) else (if (decide (60 < (a0.subs.length:Int)))=true then some ((false,()),()) else (if (decide (200 < (IntKind.wrap .i64 ((a0.auth.length:Int)+(a0.prefix_.length:Int)))))=true then some ((false,()),()) else (if (decide (200 < (IntKind.wrap .i64 ((a0.next.length:Int)+(a0.id.length:Int)))))=true then some ((false,()),()) else (if (decide (200 < (IntKind.wrap .i64 ((a0.addr.length:Int)+(a0.orig.length:Int)))))=true then some ((false,()),()) else (if (decide (300 < (a0.data.length:Int)))=true then some ((false,()),()) else (bh5 n n a0 0)))))):=by kernel_rfl
theorem ci3 (n m:Nat) (a0:aa0) (x3:Int):bh5 n (m+1) a0 x3 =
 if (decide (x3 < (a0.list.length:Int)))=true then (if 0≤x3 then (a0.list[x3.toNat]?.bind fun (y1:af5)=>(if (decide (50 < (y1.addr.length:Int)))=true then some ((false,()),()) else (bh5 n m a0 (IntKind.wrap .i64 (x3+1))))) else none) else (bh6 n n a0 0):=by kernel_rfl
theorem ci4 (n m:Nat) (a0:aa0) (x4:Int):bh6 n (m+1) a0 x4 =
 if (decide (x4 < (a0.subs.length:Int)))=true then (if 0≤x4 then (a0.subs[x4.toNat]?.bind fun (y2:aa7)=>(if (decide (300 < (y2.data.length:Int)))=true then some ((false,()),()) else (bh6 n m a0 (IntKind.wrap .i64 (x4+1))))) else none) else some ((true,()),()):=by kernel_rfl
theorem dh2 (n:Nat) (a0:List aa0) (a1:Int):bA6 n (a0,a1,()) =
 if (decide (a1 < (a0.length:Int)))=true then some ((false,()),()) else (aM4 n n a0 0):=by kernel_rfl
theorem bz9 (n m:Nat) (a0:List aa0) (x5:Int):aM4 n (m+1) a0 x5 =
 if (decide (x5 < (a0.length:Int)))=true then (if 0≤x5 then (a0[x5.toNat]?.bind fun (y1:aa0)=>((cr9 (y1,())).bind fun r2=>(if (!r2.1.1)=true then some ((false,()),()) else (aM4 n m a0 (IntKind.wrap .i64 (x5+1)))))) else none) else some ((true,()),()):=by kernel_rfl
theorem dI3 (n:Nat) (a0:List ae1):cs1 n (a0,()) =
 if (decide (12 < (a0.length:Int)))=true then some ((false,()),()) else (bh7 n n a0 0):=by kernel_rfl
theorem ci5 (n m:Nat) (a0:List ae1) (x3:Int):bh7 n (m+1) a0 x3 =
 if (decide (x3 < (a0.length:Int)))=true then (if 0≤x3 then (a0[x3.toNat]?.bind fun (y1:ae1)=>(if (decide (1000 < (y1.b.length:Int)))=true then some ((false,()),()) else (if 0≤x3 then (a0[x3.toNat]?.bind fun (y2:ae1)=>((bA7 (y2.l,10,())).bind fun r3=>(if (!r3.1.1)=true then some ((false,()),()) else (bh7 n m a0 (IntKind.wrap .i64 (x3+1)))))) else none))) else none) else some ((true,()),()):=by kernel_rfl
theorem dp5 (n:Nat) (a0:List af5) (a1:List af5):bN0 n (a0,a1,()) =
 if ((a0.length:Int) != (a1.length:Int))=true then some ((false,()),()) else (aT3 n n a0 a1 0):=by kernel_rfl
theorem bL0 (n m:Nat) (a0:List af5) (a1:List af5) (x5:Int):aT3 n (m+1) a0 a1 x5 =
 if (decide (x5 < (a0.length:Int)))=true then (if 0≤x5 then (a0[x5.toNat]?.bind fun (y1:af5)=>(if 0≤x5 then (a1[x5.toNat]?.bind fun (y2:af5)=>(if (!((y1.addr==y2.addr) && (y1.seq==y2.seq)))=true then some ((false,()),()) else (aT3 n m a0 a1 (IntKind.wrap .i64 (x5+1))))) else none)) else none) else some ((true,()),()):=by kernel_rfl
theorem dz2 (n:Nat) (a0:List aa7) (a1:List aa7):cb3 n (a0,a1,()) =
 if ((a0.length:Int) != (a1.length:Int))=true then some ((false,()),()) else (ba5 n n a0 a1 0):=by kernel_rfl
theorem bV3 (n m:Nat) (a0:List aa7) (a1:List aa7) (x5:Int):ba5 n (m+1) a0 a1 x5 =
 if (decide (x5 < (a0.length:Int)))=true then (if 0≤x5 then (a0[x5.toNat]?.bind fun (y1:aa7)=>(if 0≤x5 then (a1[x5.toNat]?.bind fun (y2:aa7)=>(if (!((y1.type_==y2.type_) && (y1.data==y2.data)))=true then some ((false,()),()) else (ba5 n m a0 a1 (IntKind.wrap .i64 (x5+1))))) else none)) else none) else some ((true,()),()):=by kernel_rfl
theorem dz3 (a0:aa0) (a1:aa0):bq2 (a0,a1,()) =
 if (a0.kind != a1.kind)=true then some ((false,()),()) else (if (a0.cmd != a1.cmd)=true then some ((false,()),()) else (if (a0.ver != a1.ver)=true then some ((false,()),()) else (if (!(a0.auth==a1.auth))=true then some ((false,()),()) else (if (a0.family != a1.family)=true then some ((false,()),()) else (if (a0.ae != a1.ae)=true then some ((false,()),()) else (if (!(a0.prefix_==a1.prefix_))=true then some ((false,()),()) else (if (a0.plen != a1.plen)=true then some ((false,()),()) else (if (a0.tag != a1.tag)=true then some ((false,()),()) else (if (!(a0.next==a1.next))=true then some ((false,()),()) else (if (a0.metric != a1.metric)=true then some ((false,()),()) else (if (!(a0.id==a1.id))=true then some ((false,()),()) else (if (a0.seq != a1.seq)=true then some ((false,()),()) else (if (a0.seq2 != a1.seq2)=true then some ((false,()),()) else (if (a0.interval != a1.interval)=true then some ((false,()),()) else (if (a0.flags != a1.flags)=true then some ((false,()),()) else (if (a0.hops != a1.hops)=true then some ((false,()),()) else (if (a0.nonce != a1.nonce)=true then some ((false,()),()) else (if (a0.cost != a1.cost)=true then some ((false,()),()) else (if (!(a0.addr==a1.addr))=true then some ((false,()),()) else (if (!(a0.orig==a1.orig))=true then some ((false,()),()) else (if (a0.type_ != a1.type_)=true then some ((false,()),()) else (if (!(a0.data==a1.data))=true then some ((false,()),()) else ((bN1 (a0.list,a1.list,())).bind fun r1=>(if r1.1.1=true then ((cb4 (a0.subs,a1.subs,())).bind fun r2=>some ((r2.1.1,()),())) else some ((false,()),()))))))))))))))))))))))))):=by kernel_rfl
end Go.VI
