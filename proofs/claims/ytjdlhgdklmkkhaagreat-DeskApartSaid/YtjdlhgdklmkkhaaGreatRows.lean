/-
  No cell of these rows narrows 'for every input' (looked for: loops, veiled, ifaces, maps, wideKeys, modest, calm, conditions, laid).
  DERIVED. THE GIVEN ROWS OF THIS SEAT. 3 by the template 'for every input the law returns true; each argument reads behind the call as it read before'; 0 by the template 'total and deterministic' (their statements: YtjdlhgdklmkkhaaGreatTotals.lean).
  GIVEN WITH THE SEED: the statements are not yours to turn. If you find one false, say at which input.
  Laid BY PROGRAM, IN A SANDBOX (cutbox-rows.mjs): the forced cells as the released guide's own fill.sh prints them over the translation ea1f0eaa9981b357… (all of the seat's roots in one cut). By AI agents, Wed Nov 11 2026. No macro, syntax, notation, axiom, sorry.
-/
import Derived.Test.YtjdlhgdklmkkhaaGreatChecked
import GoSem.Claim
import GoSem.ClaimJoined
import GoSem.ClaimMapViews
import Derived.JoinedTies
import Derived.KernelRfl
namespace Go.Proofs.YtjdlhgdklmkkhaaGreat
/- THE CELL 'sum', in the pinned program and in every row, IS THE sha256 OF THE DUMP (.gsa) THAT YtjdlhgdklmkkhaaGreatProg.lean LOADS. Nothing in Lean hashes anything: it is a label: what it is worth is what the hold of that sum in a sandbox is worth. -/
noncomputable def Tryz.pinned : Pinned := { name := "ytjdlhgdklmkkhaagreat", sum := "ea1f0eaa9981b3572fdbcc421d7d75662a825395b4b48c8cdd86260744a9cf64", checked := Tryz.checked }
namespace Rows
def none {H : Type} : Left H := { results := [], args := [] }

/-- 'roadbooklaw30.DeskPlays': WHATEVER THE INPUT: true; the input reads as it did. -/
def deskPlaysSpec : ChangeSpec := { name := "deskPlays", fn := fun _ => fun
  | [d1, d2] => { results := [.lit (.bool true)], args := [d1, d2] }
  | _ => none }
def deskPlaysRow : OpenClaim := { program := "ytjdlhgdklmkkhaagreat", sum := "ea1f0eaa9981b3572fdbcc421d7d75662a825395b4b48c8cdd86260744a9cf64", func := "roadbook/roadbooklaw30.DeskPlays", spec := "deskPlays", inPlace := ["sync/atomic.CompareAndSwapUint32", "sync/atomic.LoadUint32", "sync/atomic.AddInt64", "(*internal/sync.Mutex).Lock", "internal/race.Disable", "sync/atomic.CompareAndSwapInt32", "internal/race.Enable", "internal/race.Acquire", "(*internal/sync.Mutex).lockSlow", "internal/sync.runtime_canSpin", "internal/sync.runtime_doSpin", "internal/sync.throw", "internal/sync.runtime_nanotime", "internal/sync.runtime_SemacquireMutex", "sync/atomic.AddInt32", "(*internal/sync.Mutex).Unlock", "internal/race.ReleaseMerge", "(*internal/sync.Mutex).unlockSlow", "internal/sync.fatal", "internal/sync.runtime_Semrelease", "sync/atomic.StoreUint32", "sync/atomic.LoadInt64"], unfollowed := true, recurses := true, apart := false }
def DeskPlaysSaid : Prop := deskPlaysRow.holds Tryz.pinned (OpenSpec.ofChange deskPlaysSpec)

/-- ITS FALSE NEIGHBOUR: 'it returns false'. Refute it at one input. -/
def deskPlaysWrong : ChangeSpec := { name := "deskPlays", fn := fun _ => fun
  | [d1, d2] => { results := [.lit (.bool false)], args := [d1, d2] }
  | _ => none }
def DeskPlaysWrongFalsely : Prop := deskPlaysRow.holds Tryz.pinned (OpenSpec.ofChange deskPlaysWrong)

/-- 'roadbooklaw30.DeskApart': WHATEVER THE INPUT: true; the input reads as it did. -/
def deskApartSpec : ChangeSpec := { name := "deskApart", fn := fun _ => fun
  | [d] => { results := [.lit (.bool true)], args := [d] }
  | _ => none }
def deskApartRow : OpenClaim := { program := "ytjdlhgdklmkkhaagreat", sum := "ea1f0eaa9981b3572fdbcc421d7d75662a825395b4b48c8cdd86260744a9cf64", func := "roadbook/roadbooklaw30.DeskApart", spec := "deskApart", inPlace := ["sync/atomic.CompareAndSwapUint32", "sync/atomic.LoadUint32", "sync/atomic.AddInt64", "(*internal/sync.Mutex).Lock", "internal/race.Disable", "sync/atomic.CompareAndSwapInt32", "internal/race.Enable", "internal/race.Acquire", "(*internal/sync.Mutex).lockSlow", "internal/sync.runtime_canSpin", "internal/sync.runtime_doSpin", "internal/sync.throw", "internal/sync.runtime_nanotime", "internal/sync.runtime_SemacquireMutex", "sync/atomic.AddInt32", "(*internal/sync.Mutex).Unlock", "internal/race.ReleaseMerge", "(*internal/sync.Mutex).unlockSlow", "internal/sync.fatal", "internal/sync.runtime_Semrelease", "sync/atomic.StoreUint32", "sync/atomic.LoadInt64"], unfollowed := true, recurses := true, apart := false }
def DeskApartSaid : Prop := deskApartRow.holds Tryz.pinned (OpenSpec.ofChange deskApartSpec)

/-- ITS FALSE NEIGHBOUR: 'it returns false'. Refute it at one input. -/
def deskApartWrong : ChangeSpec := { name := "deskApart", fn := fun _ => fun
  | [d] => { results := [.lit (.bool false)], args := [d] }
  | _ => none }
def DeskApartWrongFalsely : Prop := deskApartRow.holds Tryz.pinned (OpenSpec.ofChange deskApartWrong)

/-- 'roadbooktop.WholeDesk': WHATEVER THE INPUT: true; the input reads as it did. -/
def wholeDeskSpec : ChangeSpec := { name := "wholeDesk", fn := fun _ => fun
  | [d1, d2, d3] => { results := [.lit (.bool true)], args := [d1, d2, d3] }
  | _ => none }
def wholeDeskRow : OpenClaim := { program := "ytjdlhgdklmkkhaagreat", sum := "ea1f0eaa9981b3572fdbcc421d7d75662a825395b4b48c8cdd86260744a9cf64", func := "roadbook/roadbooktop.WholeDesk", spec := "wholeDesk", inPlace := ["sync/atomic.LoadUint32", "sync/atomic.AddInt64", "sync/atomic.LoadInt64"], unfollowed := true, recurses := true, apart := false }
def WholeDeskSaid : Prop := wholeDeskRow.holds Tryz.pinned (OpenSpec.ofChange wholeDeskSpec)

/-- ITS FALSE NEIGHBOUR: 'it returns false'. Refute it at one input. -/
def wholeDeskWrong : ChangeSpec := { name := "wholeDesk", fn := fun _ => fun
  | [d1, d2, d3] => { results := [.lit (.bool false)], args := [d1, d2, d3] }
  | _ => none }
def WholeDeskWrongFalsely : Prop := wholeDeskRow.holds Tryz.pinned (OpenSpec.ofChange wholeDeskWrong)

/- THE SECOND FORM. 'bulk': how many values and letters a reading holds, each counted each time it is reached (what is shared counts as often as it is met; a slice's spare places count too). A statement '..UptoSaid' is the law's where the arguments, and the package variables that the reading takes, are together of bulk at most 1048576: NARROWER than '..Said'. Prove '..Said' where nothing that the law and all that it calls make is longer than what came in: it says more and counts as full. Else prove '..UptoSaid'. A law counts once. -/
mutual
def uptoBulk {H : Type} : DataW H → Nat
  | .lit (.string bytes) => bytes.length + 1
  | .lit _ => 1
  | .nil => 1
  | .ptr d => uptoBulk d + 1
  | .slice elems spare => uptoBulkAll elems + uptoBulkAll spare + 1
  | .agg parts => uptoBulkAll parts + 1
  | .iface _ d => uptoBulk d + 1
  | .map entries => uptoBulkEntries entries + 1
  | .held _ => 1
def uptoBulkAll {H : Type} : List (DataW H) → Nat
  | [] => 0
  | d :: r => uptoBulk d + uptoBulkAll r
def uptoBulkEntries {H : Type} : List (Lit × DataW H) → Nat
  | [] => 0
  | x :: r => uptoBulkEntry x + uptoBulkEntries r
def uptoBulkEntry {H : Type} : Lit × DataW H → Nat
  | (.string bytes, d) => bytes.length + uptoBulk d + 1
  | (_, d) => uptoBulk d + 1
 end
def uptoSmall : (H : Type) → List (DataW H) → Bool := fun _ ds => decide (uptoBulkAll ds ≤ 1048576)
def OpenSpec.upto (s : _root_.Go.ChangeSpec) : _root_.Go.OpenSpec := { _root_.Go.OpenSpec.ofChange s with cond := some uptoSmall }

/-- 'roadbooklaw30.DeskPlays', WHERE WHAT IT READS IS OF BULK AT MOST 1048576: true; the input reads as it did. -/
def deskPlaysUptoRow : OpenClaim := { program := "ytjdlhgdklmkkhaagreat", sum := "ea1f0eaa9981b3572fdbcc421d7d75662a825395b4b48c8cdd86260744a9cf64", func := "roadbook/roadbooklaw30.DeskPlays", spec := "deskPlays", inPlace := ["sync/atomic.CompareAndSwapUint32", "sync/atomic.LoadUint32", "sync/atomic.AddInt64", "(*internal/sync.Mutex).Lock", "internal/race.Disable", "sync/atomic.CompareAndSwapInt32", "internal/race.Enable", "internal/race.Acquire", "(*internal/sync.Mutex).lockSlow", "internal/sync.runtime_canSpin", "internal/sync.runtime_doSpin", "internal/sync.throw", "internal/sync.runtime_nanotime", "internal/sync.runtime_SemacquireMutex", "sync/atomic.AddInt32", "(*internal/sync.Mutex).Unlock", "internal/race.ReleaseMerge", "(*internal/sync.Mutex).unlockSlow", "internal/sync.fatal", "internal/sync.runtime_Semrelease", "sync/atomic.StoreUint32", "sync/atomic.LoadInt64"], unfollowed := true, recurses := true, apart := false, narrowed := true }
def DeskPlaysUptoSaid : Prop := deskPlaysUptoRow.holds Tryz.pinned (OpenSpec.upto deskPlaysSpec)

/-- 'roadbooklaw30.DeskApart', WHERE WHAT IT READS IS OF BULK AT MOST 1048576: true; the input reads as it did. -/
def deskApartUptoRow : OpenClaim := { program := "ytjdlhgdklmkkhaagreat", sum := "ea1f0eaa9981b3572fdbcc421d7d75662a825395b4b48c8cdd86260744a9cf64", func := "roadbook/roadbooklaw30.DeskApart", spec := "deskApart", inPlace := ["sync/atomic.CompareAndSwapUint32", "sync/atomic.LoadUint32", "sync/atomic.AddInt64", "(*internal/sync.Mutex).Lock", "internal/race.Disable", "sync/atomic.CompareAndSwapInt32", "internal/race.Enable", "internal/race.Acquire", "(*internal/sync.Mutex).lockSlow", "internal/sync.runtime_canSpin", "internal/sync.runtime_doSpin", "internal/sync.throw", "internal/sync.runtime_nanotime", "internal/sync.runtime_SemacquireMutex", "sync/atomic.AddInt32", "(*internal/sync.Mutex).Unlock", "internal/race.ReleaseMerge", "(*internal/sync.Mutex).unlockSlow", "internal/sync.fatal", "internal/sync.runtime_Semrelease", "sync/atomic.StoreUint32", "sync/atomic.LoadInt64"], unfollowed := true, recurses := true, apart := false, narrowed := true }
def DeskApartUptoSaid : Prop := deskApartUptoRow.holds Tryz.pinned (OpenSpec.upto deskApartSpec)

/-- 'roadbooktop.WholeDesk', WHERE WHAT IT READS IS OF BULK AT MOST 1048576: true; the input reads as it did. -/
def wholeDeskUptoRow : OpenClaim := { program := "ytjdlhgdklmkkhaagreat", sum := "ea1f0eaa9981b3572fdbcc421d7d75662a825395b4b48c8cdd86260744a9cf64", func := "roadbook/roadbooktop.WholeDesk", spec := "wholeDesk", inPlace := ["sync/atomic.LoadUint32", "sync/atomic.AddInt64", "sync/atomic.LoadInt64"], unfollowed := true, recurses := true, apart := false, narrowed := true }
def WholeDeskUptoSaid : Prop := wholeDeskUptoRow.holds Tryz.pinned (OpenSpec.upto wholeDeskSpec)

end Rows
end Go.Proofs.YtjdlhgdklmkkhaaGreat
