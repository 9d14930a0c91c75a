import Derived.Test.YtnjhhopdiopbfaaFH
set_option linter.unusedVariables false
set_option linter.unusedSimpArgs false
set_option maxRecDepth 1000000
set_option maxHeartbeats 4000000
namespace Go.VI
open Go Go.Proofs
/-! ### octet_Zero -/
theorem h_octet_Zero_eq (n : Nat) (a0 : List UInt8) : h_octet_Zero n (a0, ()) =
  L_octet_Zero_0 n n a0 0 := by kernel_rfl
theorem L_octet_Zero_0_eq (n m : Nat) (a0 : List UInt8) (x8 : Int) : L_octet_Zero_0 n (m + 1) a0 x8 =
  if (decide (x8 < (a0.length : Int))) = true then (if 0 ≤ x8 then (a0[x8.toNat]?.bind fun (y1 : UInt8) => (if ((y1.toNat : Int) != 0) = true then some ((false, ()), ()) else (L_octet_Zero_0 n m a0 (IntKind.wrap .i64 (x8 + 1))))) else none) else some ((true, ()), ()) := by kernel_rfl
/-! ### rip_head -/
theorem g_rip_head_eq (a0 : List UInt8) : g_rip_head (a0, ()) =
  if (decide ((a0.length : Int) < 4)) = true then some (((a0.length : Int), 2, ()), ()) else (a0[0]?.bind fun (y1 : UInt8) => (if ((y1.toNat : Int) != 1) = true then (a0[0]?.bind fun (y2 : UInt8) => (if ((y2.toNat : Int) != 2) = true then some ((0, 4, ()), ()) else (a0[1]?.bind fun (y3 : UInt8) => (if ((y3.toNat : Int) != 1) = true then (a0[1]?.bind fun (y4 : UInt8) => (if ((y4.toNat : Int) != 2) = true then some ((1, 4, ()), ()) else (if 0 ≤ (2 : Int) ∧ (2 : Int) ≤ (4 : Int) ∧ (4 : Int) ≤ (a0.length : Int) then ((g_octet_Zero (((a0.take 4).drop 2), ())).bind fun r5 => (if (!r5.1.1) = true then some ((2, 5, ()), ()) else (if (decide (0 < ((IntKind.wrap .i64 ((a0.length : Int) - 4)).tmod 20))) = true then some (((a0.length : Int), 2, ()), ()) else (if ((a0.length : Int) == 4) = true then some (((a0.length : Int), 8, ()), ()) else (if (decide (25 < (IntKind.wrap .i64 ((IntKind.wrap .i64 ((a0.length : Int) - 4)).tdiv 20)))) = true then some ((504, 8, ()), ()) else some ((0, 0, ()), ())))))) else none))) else (if 0 ≤ (2 : Int) ∧ (2 : Int) ≤ (4 : Int) ∧ (4 : Int) ≤ (a0.length : Int) then ((g_octet_Zero (((a0.take 4).drop 2), ())).bind fun r6 => (if (!r6.1.1) = true then some ((2, 5, ()), ()) else (if (decide (0 < ((IntKind.wrap .i64 ((a0.length : Int) - 4)).tmod 20))) = true then some (((a0.length : Int), 2, ()), ()) else (if ((a0.length : Int) == 4) = true then some (((a0.length : Int), 8, ()), ()) else (if (decide (25 < (IntKind.wrap .i64 ((IntKind.wrap .i64 ((a0.length : Int) - 4)).tdiv 20)))) = true then some ((504, 8, ()), ()) else some ((0, 0, ()), ())))))) else none))))) else (a0[1]?.bind fun (y7 : UInt8) => (if ((y7.toNat : Int) != 1) = true then (a0[1]?.bind fun (y8 : UInt8) => (if ((y8.toNat : Int) != 2) = true then some ((1, 4, ()), ()) else (if 0 ≤ (2 : Int) ∧ (2 : Int) ≤ (4 : Int) ∧ (4 : Int) ≤ (a0.length : Int) then ((g_octet_Zero (((a0.take 4).drop 2), ())).bind fun r9 => (if (!r9.1.1) = true then some ((2, 5, ()), ()) else (if (decide (0 < ((IntKind.wrap .i64 ((a0.length : Int) - 4)).tmod 20))) = true then some (((a0.length : Int), 2, ()), ()) else (if ((a0.length : Int) == 4) = true then some (((a0.length : Int), 8, ()), ()) else (if (decide (25 < (IntKind.wrap .i64 ((IntKind.wrap .i64 ((a0.length : Int) - 4)).tdiv 20)))) = true then some ((504, 8, ()), ()) else some ((0, 0, ()), ())))))) else none))) else (if 0 ≤ (2 : Int) ∧ (2 : Int) ≤ (4 : Int) ∧ (4 : Int) ≤ (a0.length : Int) then ((g_octet_Zero (((a0.take 4).drop 2), ())).bind fun r10 => (if (!r10.1.1) = true then some ((2, 5, ()), ()) else (if (decide (0 < ((IntKind.wrap .i64 ((a0.length : Int) - 4)).tmod 20))) = true then some (((a0.length : Int), 2, ()), ()) else (if ((a0.length : Int) == 4) = true then some (((a0.length : Int), 8, ()), ()) else (if (decide (25 < (IntKind.wrap .i64 ((IntKind.wrap .i64 ((a0.length : Int) - 4)).tdiv 20)))) = true then some ((504, 8, ()), ()) else some ((0, 0, ()), ())))))) else none))))) := by kernel_rfl
/-! ### internal_stringslite_HasPrefix -/
theorem g_internal_stringslite_HasPrefix_eq (a0 : List UInt8) (a1 : List UInt8) : g_internal_stringslite_HasPrefix (a0, a1, ()) =
  if (decide ((a1.length : Int) ≤ (a0.length : Int))) = true then (if 0 ≤ (a1.length : Int) ∧ (a1.length : Int) ≤ (a0.length : Int) then some ((((a0.take (a1.length : Int).toNat) == a1), ()), ()) else none) else some ((false, ()), ()) := by kernel_rfl
/-! ### internal_stringslite_CutPrefix -/
theorem g_internal_stringslite_CutPrefix_eq (a0 : List UInt8) (a1 : List UInt8) : g_internal_stringslite_CutPrefix (a0, a1, ()) =
  (g_internal_stringslite_HasPrefix (a0, a1, ())).bind fun r1 => (if (!r1.1.1) = true then some ((a0, false, ()), ()) else (if 0 ≤ (a1.length : Int) ∧ (a1.length : Int) ≤ (a0.length : Int) then some (((a0.drop (a1.length : Int).toNat), true, ()), ()) else none)) := by kernel_rfl
/-! ### strings_CutPrefix -/
theorem g_strings_CutPrefix_eq (a0 : List UInt8) (a1 : List UInt8) : g_strings_CutPrefix (a0, a1, ()) =
  (g_internal_stringslite_CutPrefix (a0, a1, ())).bind fun r1 => some ((r1.1.1, r1.1.2.1, ()), ()) := by kernel_rfl
/-! ### auth_Get -/
theorem g_auth_Get_eq (a0 : List UInt8) : g_auth_Get (a0, ()) =
  (g_strings_CutPrefix (a0, ([255, 255] : List UInt8), ())).bind fun r1 => (if (!r1.1.2.1) = true then some ((([] : List UInt8), false, ()), ()) else (if ((r1.1.1.length : Int) != 18) = true then some ((([] : List UInt8), false, ()), ()) else some ((r1.1.1, true, ()), ()))) := by kernel_rfl
/-! ### cursor_New -/
theorem g_cursor_New_eq (a0 : List UInt8) : g_cursor_New (a0, ()) =
  some (((S_api_Cur.mk a0 0 (a0.length : Int) false), ()), ()) := by kernel_rfl
/-! ### cursor_step -/
theorem g_cursor_step_eq (a0 : S_api_Cur) (a1 : Int) : g_cursor_step (a0, a1, ()) =
  if a0.bad = true then some (((S_api_Cur.mk a0.s a0.at_ a0.end_ true), false, ()), ()) else (if (decide (a1 < 0)) = true then some (((S_api_Cur.mk a0.s a0.at_ a0.end_ true), false, ()), ()) else (if (decide ((IntKind.wrap .i64 (a0.end_ - a0.at_)) < a1)) = true then some (((S_api_Cur.mk a0.s a0.at_ a0.end_ true), false, ()), ()) else some (((S_api_Cur.mk a0.s (IntKind.wrap .i64 (a0.at_ + a1)) a0.end_ a0.bad), true, ()), ()))) := by kernel_rfl
/-! ### cursor_Num -/
theorem h_cursor_Num_eq (n : Nat) (a0 : S_api_Cur) (a1 : Int) : h_cursor_Num n (a0, a1, ()) =
  if (decide (a1 < 1)) = true then some ((0, (S_api_Cur.mk a0.s a0.at_ a0.end_ true), ()), ()) else (if (decide (7 < a1)) = true then some ((0, (S_api_Cur.mk a0.s a0.at_ a0.end_ true), ()), ()) else ((g_cursor_step (a0, a1, ())).bind fun r1 => (if (!r1.1.2.1) = true then some ((0, r1.1.1, ()), ()) else (if 0 ≤ a0.at_ ∧ a0.at_ ≤ r1.1.1.at_ ∧ r1.1.1.at_ ≤ (a0.s.length : Int) then (L_cursor_Num_0 n n r1 0 ((a0.s.take r1.1.1.at_.toNat).drop a0.at_.toNat) (((a0.s.take r1.1.1.at_.toNat).drop a0.at_.toNat).length : Int) 0) else none)))) := by kernel_rfl
theorem L_cursor_Num_0_eq (n m : Nat) (r1 : (S_api_Cur × Bool × Unit) × Unit) (x8 : Int) (x35 : List UInt8) (x36 : Int) (x37 : Int) : L_cursor_Num_0 n (m + 1) r1 x8 x35 x36 x37 =
  if (decide (x37 < x36)) = true then (if 0 ≤ x37 then (x35[x37.toNat]?.bind fun (y2 : UInt8) => (L_cursor_Num_0 n m r1 (ibits .or .i64 (ishl .i64 x8 8) (IntKind.wrap .i64 (y2.toNat : Int))) x35 x36 (IntKind.wrap .i64 (x37 + 1)))) else none) else some ((x8, r1.1.1, ()), ()) := by kernel_rfl
/-! ### entry_reader_num -/
theorem g_entry_reader_num_eq (a0 : S_entry_reader) (a1 : Int) : g_entry_reader_num (a0, a1, ()) =
  (g_cursor_Num ((S_api_Cur.mk a0.c_S a0.c_At a0.c_End a0.c_Bad), a1, ())).bind fun r1 => some ((r1.1.1, ()), ((S_entry_reader.mk r1.1.2.1.s r1.1.2.1.at_ r1.1.2.1.end_ r1.1.2.1.bad), ())) := by kernel_rfl
/-! ### cursor_Text -/
theorem g_cursor_Text_eq (a0 : S_api_Cur) (a1 : Int) : g_cursor_Text (a0, a1, ()) =
  (g_cursor_step (a0, a1, ())).bind fun r1 => (if (!r1.1.2.1) = true then some ((([] : List UInt8), r1.1.1, ()), ()) else (if 0 ≤ a0.at_ ∧ a0.at_ ≤ r1.1.1.at_ ∧ r1.1.1.at_ ≤ (a0.s.length : Int) then some ((((a0.s.take r1.1.1.at_.toNat).drop a0.at_.toNat), r1.1.1, ()), ()) else none)) := by kernel_rfl
/-! ### entry_reader_four -/
theorem g_entry_reader_four_eq (a0 : S_entry_reader) : g_entry_reader_four (a0, ()) =
  (g_cursor_Text ((S_api_Cur.mk a0.c_S a0.c_At a0.c_End a0.c_Bad), 4, ())).bind fun r1 => some ((r1.1.1, ()), ((S_entry_reader.mk r1.1.2.1.s r1.1.2.1.at_ r1.1.2.1.end_ r1.1.2.1.bad), ())) := by kernel_rfl
/-! ### entry_Get -/
theorem g_entry_Get_eq (a0 : List UInt8) : g_entry_Get (a0, ()) =
  if ((a0.length : Int) != 20) = true then some (((S_api_Entry.mk 0 0 ([] : List UInt8) ([] : List UInt8) ([] : List UInt8) 0), false, ()), ()) else ((g_cursor_New (a0, ())).bind fun r1 => ((g_entry_reader_num ((S_entry_reader.mk r1.1.1.s r1.1.1.at_ r1.1.1.end_ r1.1.1.bad), 2, ())).bind fun r2 => ((g_entry_reader_num (r2.2.1, 2, ())).bind fun r3 => ((g_entry_reader_four (r3.2.1, ())).bind fun r4 => ((g_entry_reader_four (r4.2.1, ())).bind fun r5 => ((g_entry_reader_four (r5.2.1, ())).bind fun r6 => ((g_entry_reader_num (r6.2.1, 4, ())).bind fun r7 => some (((S_api_Entry.mk r2.1.1 r3.1.1 r4.1.1 r5.1.1 r6.1.1 r7.1.1), true, ()), ())))))))) := by kernel_rfl
/-! ### msg_strip -/
theorem g_msg_strip_eq (a0 : S_api_Msg) : g_msg_strip (a0, ()) =
  some (((S_msg_plain.mk a0.kind a0.cmd a0.ver a0.family a0.ae a0.plen a0.tag a0.metric a0.seq a0.seq2 a0.interval a0.flags a0.hops a0.nonce a0.cost a0.type_ a0.auth a0.prefix_ a0.next a0.id a0.addr a0.orig a0.data), ()), ()) := by kernel_rfl
end Go.VI
