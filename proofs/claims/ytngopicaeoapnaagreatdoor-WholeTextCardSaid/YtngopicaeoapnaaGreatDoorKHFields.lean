import Derived.Test.YtngopicaeoapnaaGreatDoorKFH
import Derived.Laws.OwnMore
import Derived.WalkKit
import Derived.BigCall
import Derived.IntWalk
import Derived.Test.YtngopicaeoapnaaGreatDoorKHStill
set_option linter.unusedVariables false
set_option linter.unusedSimpArgs false
namespace Go.Proofs
open Go.RowKit Go.Lib
def eW6 (b : Nat) (w : Array UInt8) (k o : Nat) : List Value :=
  [.string ⟨w⟩, .pointer (if k = 1 then some ⟨b, o, none⟩ else none), .pointer (if k = 2 then some ⟨b, o, none⟩ else none), .pointer (if k = 3 then some ⟨b, o, none⟩ else none), .pointer (if k = 4 then some ⟨b, o, none⟩ else none)]
def eX7 : List (List UInt8 × Nat × Nat) := [([99, 109, 100], 1, 1), ([118, 101, 114], 1, 2), ([97, 117, 116, 104], 2, 3), ([102, 97, 109, 105, 108, 121], 1, 4), ([97, 101], 1, 5), ([112, 114, 101, 102, 105, 120], 2, 6), ([112, 108, 101, 110], 1, 7), ([116, 97, 103], 1, 8),
  ([110, 101, 120, 116], 2, 9), ([109, 101, 116, 114, 105, 99], 1, 10), ([105, 100], 2, 11), ([115, 101, 113], 1, 12), ([115, 101, 113, 50], 1, 13), ([105, 110, 116, 101, 114, 118, 97, 108], 1, 14), ([102, 108, 97, 103, 115], 1, 15), ([104, 111, 112, 115], 1, 16),
  ([110, 111, 110, 99, 101], 1, 17), ([99, 111, 115, 116], 1, 18), ([97, 100, 100, 114], 2, 19), ([111, 114, 105, 103], 2, 20), ([108, 105, 115, 116], 3, 21), ([116, 121, 112, 101], 1, 22), ([100, 97, 116, 97], 2, 23), ([115, 117, 98, 115], 4, 24)]
def ch8 (b : Nat) : Array Value := (eX7.flatMap fun x => eW6 b x.1.toArray x.2.1 x.2.2).toArray
set_option maxHeartbeats 8000000 in
set_option maxRecDepth 100000 in
theorem Tryz.fields_w (b : Nat) (w : World) :
    Calls Tryz.prog 16 #[.pointer (some ⟨b, 0, none⟩)] w fun e w' => e = .returned (.slice (some ⟨w.heap.size, 0, none⟩) 24 24) ∧ w' = (w.alloc (.cells (ch8 b) 64)).drew := by
  go_enter Tryz.func16, Tryz.ntmps16
  go_wp2
  simp only [List.append]
  refine wp_region_still_tail 96 (by kernel_rfl) (ea2 (by kernel_rfl)) ?_
  simp only [List.take_succ_cons, List.take_zero, List.drop_succ_cons, List.drop_zero]
  repeat still_step
  try refine wpStill_nil ?_
  go_wp2
  go_ret
  exact ⟨rfl, by first | rfl | kernel_rfl⟩
end Go.Proofs
