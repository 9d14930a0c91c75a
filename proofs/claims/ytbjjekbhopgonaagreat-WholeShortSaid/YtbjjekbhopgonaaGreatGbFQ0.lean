import Derived.Test.YtbjjekbhopgonaaGreatGbFH
set_option linter.unusedVariables false
set_option linter.unusedSimpArgs false
set_option maxRecDepth 1000000
set_option maxHeartbeats 4000000
namespace Go.VI
open Go Go.Proofs
theorem h_ref07_Few_eq (n : Nat) (a0 : S_api_Msg) : h_ref07_Few n (a0, ()) =
  if (decide (300 < (a0.list.length : Int))) = true then some ((false, ()), ()) else (if (decide (60 < (a0.subs.length : Int))) = true then some ((false, ()), ()) else (if (decide (200 < (IntKind.wrap .i64 ((a0.auth.length : Int) + (a0.prefix_.length : Int))))) = true then some ((false, ()), ()) else (if (decide (200 < (IntKind.wrap .i64 ((a0.next.length : Int) + (a0.id.length : Int))))) = true then some ((false, ()), ()) else (if (decide (200 < (IntKind.wrap .i64 ((a0.addr.length : Int) + (a0.orig.length : Int))))) = true then some ((false, ()), ()) else (if (decide (300 < (a0.data.length : Int))) = true then some ((false, ()), ()) else (L_ref07_Few_0 n n a0 0)))))) := by kernel_rfl
theorem L_ref07_Few_0_eq (n m : Nat) (a0 : S_api_Msg) (x3 : Int) : L_ref07_Few_0 n (m + 1) a0 x3 =
  if (decide (x3 < (a0.list.length : Int))) = true then (if 0 ≤ x3 then (a0.list[x3.toNat]?.bind fun (y1 : S_api_Dest) => (if (decide (50 < (y1.addr.length : Int))) = true then some ((false, ()), ()) else (L_ref07_Few_0 n m a0 (IntKind.wrap .i64 (x3 + 1))))) else none) else (L_ref07_Few_1 n n a0 0) := by kernel_rfl
theorem L_ref07_Few_1_eq (n m : Nat) (a0 : S_api_Msg) (x4 : Int) : L_ref07_Few_1 n (m + 1) a0 x4 =
  if (decide (x4 < (a0.subs.length : Int))) = true then (if 0 ≤ x4 then (a0.subs[x4.toNat]?.bind fun (y2 : S_api_Sub) => (if (decide (300 < (y2.data.length : Int))) = true then some ((false, ()), ()) else (L_ref07_Few_1 n m a0 (IntKind.wrap .i64 (x4 + 1))))) else none) else some ((true, ()), ()) := by kernel_rfl
theorem h_ref07_FewAll_eq (n : Nat) (a0 : List S_api_Msg) (a1 : Int) : h_ref07_FewAll n (a0, a1, ()) =
  if (decide (a1 < (a0.length : Int))) = true then some ((false, ()), ()) else (L_ref07_FewAll_0 n n a0 0) := by kernel_rfl
theorem L_ref07_FewAll_0_eq (n m : Nat) (a0 : List S_api_Msg) (x5 : Int) : L_ref07_FewAll_0 n (m + 1) a0 x5 =
  if (decide (x5 < (a0.length : Int))) = true then (if 0 ≤ x5 then (a0[x5.toNat]?.bind fun (y1 : S_api_Msg) => ((g_ref07_Few (y1, ())).bind fun r2 => (if (!r2.1.1) = true then some ((false, ()), ()) else (L_ref07_FewAll_0 n m a0 (IntKind.wrap .i64 (x5 + 1)))))) else none) else some ((true, ()), ()) := by kernel_rfl
theorem g_internal_stringslite_HasPrefix_eq (a0 : List UInt8) (a1 : List UInt8) : g_internal_stringslite_HasPrefix (a0, a1, ()) =
  if (decide ((a1.length : Int) ≤ (a0.length : Int))) = true then (if 0 ≤ (a1.length : Int) ∧ (a1.length : Int) ≤ (a0.length : Int) then some ((((a0.take (a1.length : Int).toNat) == a1), ()), ()) else none) else some ((false, ()), ()) := by kernel_rfl
theorem g_cursor_New_eq (a0 : List UInt8) : g_cursor_New (a0, ()) =
  some (((S_api_Cur.mk a0 0 (a0.length : Int) false), ()), ()) := by kernel_rfl
theorem g_cursor_step_eq (a0 : S_api_Cur) (a1 : Int) : g_cursor_step (a0, a1, ()) =
  if a0.bad = true then some (((S_api_Cur.mk a0.s a0.at_ a0.end_ true), false, ()), ()) else (if (decide (a1 < 0)) = true then some (((S_api_Cur.mk a0.s a0.at_ a0.end_ true), false, ()), ()) else (if (decide ((IntKind.wrap .i64 (a0.end_ - a0.at_)) < a1)) = true then some (((S_api_Cur.mk a0.s a0.at_ a0.end_ true), false, ()), ()) else some (((S_api_Cur.mk a0.s (IntKind.wrap .i64 (a0.at_ + a1)) a0.end_ a0.bad), true, ()), ()))) := by kernel_rfl
theorem h_cursor_Num_eq (n : Nat) (a0 : S_api_Cur) (a1 : Int) : h_cursor_Num n (a0, a1, ()) =
  if (decide (a1 < 1)) = true then some ((0, (S_api_Cur.mk a0.s a0.at_ a0.end_ true), ()), ()) else (if (decide (7 < a1)) = true then some ((0, (S_api_Cur.mk a0.s a0.at_ a0.end_ true), ()), ()) else ((g_cursor_step (a0, a1, ())).bind fun r1 => (if (!r1.1.2.1) = true then some ((0, r1.1.1, ()), ()) else (if 0 ≤ a0.at_ ∧ a0.at_ ≤ r1.1.1.at_ ∧ r1.1.1.at_ ≤ (a0.s.length : Int) then (L_cursor_Num_0 n n r1 0 ((a0.s.take r1.1.1.at_.toNat).drop a0.at_.toNat) (((a0.s.take r1.1.1.at_.toNat).drop a0.at_.toNat).length : Int) 0) else none)))) := by kernel_rfl
theorem L_cursor_Num_0_eq (n m : Nat) (r1 : (S_api_Cur × Bool × Unit) × Unit) (x8 : Int) (x35 : List UInt8) (x36 : Int) (x37 : Int) : L_cursor_Num_0 n (m + 1) r1 x8 x35 x36 x37 =
  if (decide (x37 < x36)) = true then (if 0 ≤ x37 then (x35[x37.toNat]?.bind fun (y2 : UInt8) => (L_cursor_Num_0 n m r1 (ibits .or .i64 (ishl .i64 x8 8) (IntKind.wrap .i64 (y2.toNat : Int))) x35 x36 (IntKind.wrap .i64 (x37 + 1)))) else none) else some ((x8, r1.1.1, ()), ()) := by kernel_rfl
theorem g_cursor_Text_eq (a0 : S_api_Cur) (a1 : Int) : g_cursor_Text (a0, a1, ()) =
  (g_cursor_step (a0, a1, ())).bind fun r1 => (if (!r1.1.2.1) = true then some ((([] : List UInt8), r1.1.1, ()), ()) else (if 0 ≤ a0.at_ ∧ a0.at_ ≤ r1.1.1.at_ ∧ r1.1.1.at_ ≤ (a0.s.length : Int) then some ((((a0.s.take r1.1.1.at_.toNat).drop a0.at_.toNat), r1.1.1, ()), ()) else none)) := by kernel_rfl
theorem g_msg_strip_eq (a0 : S_api_Msg) : g_msg_strip (a0, ()) =
  some (((S_msg_plain.mk a0.kind a0.cmd a0.ver a0.family a0.ae a0.plen a0.tag a0.metric a0.seq a0.seq2 a0.interval a0.flags a0.hops a0.nonce a0.cost a0.type_ a0.auth a0.prefix_ a0.next a0.id a0.addr a0.orig a0.data), ()), ()) := by kernel_rfl
end Go.VI
