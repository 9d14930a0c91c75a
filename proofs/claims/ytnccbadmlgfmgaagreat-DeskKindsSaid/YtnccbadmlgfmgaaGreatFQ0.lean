import Derived.Test.YtnccbadmlgfmgaaGreatFH
set_option linter.unusedVariables false
set_option linter.unusedSimpArgs false
set_option maxRecDepth 1000000
set_option maxHeartbeats 4000000
namespace Go.VI
open Go Go.Proofs
/-! ### text_words -/
theorem g_text_words_eq : g_text_words () =
  some (((S_15_string.mk ([] : List UInt8) ([114, 105, 112] : List UInt8) ([110, 103] : List UInt8) ([114, 114, 101, 113] : List UInt8) ([114, 114, 101, 112] : List UInt8) ([114, 101, 114, 114] : List UInt8) ([114, 114, 101, 112, 97, 99, 107] : List UInt8) ([97, 99, 107, 114, 101, 113] : List UInt8) ([97, 99, 107] : List UInt8) ([104, 101, 108, 108, 111] : List UInt8) ([105, 104, 117] : List UInt8) ([117, 112, 100, 97, 116, 101] : List UInt8) ([114, 111, 117, 116, 101, 114, 101, 113] : List UInt8) ([115, 101, 113, 110, 111, 114, 101, 113] : List UInt8) ([111, 112, 97, 113, 117, 101] : List UInt8)), ()), ()) := by kernel_rfl
/-! ### text_Word -/
theorem g_text_Word_eq (a0 : Int) : g_text_Word (a0, ()) =
  if (decide (a0 < 1)) = true then some ((([] : List UInt8), ()), ()) else (if (decide (14 < a0)) = true then some ((([] : List UInt8), ()), ()) else ((g_text_words ()).bind fun r1 => (if 0 ≤ a0 ∧ a0 < 15 then some (((if a0 = 0 then r1.1.1.c0 else (if a0 = 1 then r1.1.1.c1 else (if a0 = 2 then r1.1.1.c2 else (if a0 = 3 then r1.1.1.c3 else (if a0 = 4 then r1.1.1.c4 else (if a0 = 5 then r1.1.1.c5 else (if a0 = 6 then r1.1.1.c6 else (if a0 = 7 then r1.1.1.c7 else (if a0 = 8 then r1.1.1.c8 else (if a0 = 9 then r1.1.1.c9 else (if a0 = 10 then r1.1.1.c10 else (if a0 = 11 then r1.1.1.c11 else (if a0 = 12 then r1.1.1.c12 else (if a0 = 13 then r1.1.1.c13 else r1.1.1.c14)))))))))))))), ()), ()) else none))) := by kernel_rfl
/-! ### ref29_words -/
theorem g_ref29_words_eq : g_ref29_words () =
  some ((([([] : List UInt8), ([114, 105, 112] : List UInt8), ([110, 103] : List UInt8), ([114, 114, 101, 113] : List UInt8), ([114, 114, 101, 112] : List UInt8), ([114, 101, 114, 114] : List UInt8), ([114, 114, 101, 112, 97, 99, 107] : List UInt8), ([97, 99, 107, 114, 101, 113] : List UInt8), ([97, 99, 107] : List UInt8), ([104, 101, 108, 108, 111] : List UInt8), ([105, 104, 117] : List UInt8), ([117, 112, 100, 97, 116, 101] : List UInt8), ([114, 111, 117, 116, 101, 114, 101, 113] : List UInt8), ([115, 101, 113, 110, 111, 114, 101, 113] : List UInt8), ([111, 112, 97, 113, 117, 101] : List UInt8)]), ()), ()) := by kernel_rfl
/-! ### ref29_Word -/
theorem g_ref29_Word_eq (a0 : Int) : g_ref29_Word (a0, ()) =
  if (decide (a0 < 1)) = true then some ((([] : List UInt8), ()), ()) else (if (decide (14 < a0)) = true then some ((([] : List UInt8), ()), ()) else ((g_ref29_words ()).bind fun r1 => (if 0 ≤ a0 then (r1.1.1[a0.toNat]?.bind fun (y2 : List UInt8) => some ((y2, ()), ())) else none))) := by kernel_rfl
/-! ### ref30_Kind -/
theorem h_ref30_Kind_eq (n : Nat) (a0 : List UInt8) : h_ref30_Kind n (a0, ()) =
  L_ref30_Kind_0 n n a0 1 := by kernel_rfl
theorem L_ref30_Kind_0_eq (n m : Nat) (a0 : List UInt8) (x3 : Int) : L_ref30_Kind_0 n (m + 1) a0 x3 =
  if (decide (x3 ≤ 14)) = true then ((g_ref29_Word (x3, ())).bind fun r1 => (if (r1.1.1 == a0) = true then some ((x3, ()), ()) else (L_ref30_Kind_0 n m a0 (IntKind.wrap .i64 (x3 + 1))))) else some ((0, ()), ()) := by kernel_rfl
end Go.VI
