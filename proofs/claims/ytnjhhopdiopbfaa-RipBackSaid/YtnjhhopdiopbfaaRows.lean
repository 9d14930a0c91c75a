/-
  No cell of these rows narrows 'for every input' (looked for: loops, veiled, ifaces, maps, wideKeys, modest, calm, conditions, laid).
  DERIVED. THE GIVEN ROWS OF THIS SEAT. 4 by the template 'for every input the law returns true; each argument reads behind the call as it read before'; 0 by the template 'total and deterministic' (their statements: YtnjhhopdiopbfaaTotals.lean).
  GIVEN WITH THE SEED: the statements are not yours to turn. If you find one false, say at which input.
  Laid BY PROGRAM, IN A SANDBOX (cutbox-rows.mjs): the forced cells as the released guide's own fill.sh prints them over the translation 65369d79579c165a… (all of the seat's roots in one cut). By AI agents, Wed Nov 11 2026. No macro, syntax, notation, axiom, sorry.
-/
import Derived.Test.YtnjhhopdiopbfaaChecked
import GoSem.Claim
import GoSem.ClaimJoined
import GoSem.ClaimMapViews
import Derived.JoinedTies
import Derived.KernelRfl
namespace Go.Proofs.Ytnjhhopdiopbfaa
/- THE CELL 'sum', in the pinned program and in every row, IS THE sha256 OF THE DUMP (.gsa) THAT YtnjhhopdiopbfaaProg.lean LOADS. Nothing in Lean hashes anything: it is a label: what it is worth is what the hold of that sum in a sandbox is worth. -/
noncomputable def Try.pinned : Pinned := { name := "ytnjhhopdiopbfaa", sum := "65369d79579c165a16d29edda620d0f65152878de36fe274c2373f8a416d8e17", checked := Try.checked }
namespace Rows
def none {H : Type} : Left H := { results := [], args := [] }

/-- 'roadbooklaw10.RipParses': WHATEVER THE INPUT: true; the input reads as it did. -/
def ripParsesSpec : ChangeSpec := { name := "ripParses", fn := fun _ => fun
  | [d] => { results := [.lit (.bool true)], args := [d] }
  | _ => none }
def ripParsesRow : OpenClaim := { program := "ytnjhhopdiopbfaa", sum := "65369d79579c165a16d29edda620d0f65152878de36fe274c2373f8a416d8e17", func := "roadbook/roadbooklaw10.RipParses", spec := "ripParses", apart := false }
def RipParsesSaid : Prop := ripParsesRow.holds Try.pinned (OpenSpec.ofChange ripParsesSpec)

/-- ITS FALSE NEIGHBOUR: 'it returns false'. Refute it at one input. -/
def ripParsesWrong : ChangeSpec := { name := "ripParses", fn := fun _ => fun
  | [d] => { results := [.lit (.bool false)], args := [d] }
  | _ => none }
def RipParsesWrongFalsely : Prop := ripParsesRow.holds Try.pinned (OpenSpec.ofChange ripParsesWrong)

/-- 'roadbooklaw10.RipEncodes': WHATEVER THE INPUT: true; the input reads as it did. -/
def ripEncodesSpec : ChangeSpec := { name := "ripEncodes", fn := fun _ => fun
  | [d] => { results := [.lit (.bool true)], args := [d] }
  | _ => none }
def ripEncodesRow : OpenClaim := { program := "ytnjhhopdiopbfaa", sum := "65369d79579c165a16d29edda620d0f65152878de36fe274c2373f8a416d8e17", func := "roadbook/roadbooklaw10.RipEncodes", spec := "ripEncodes", apart := false }
def RipEncodesSaid : Prop := ripEncodesRow.holds Try.pinned (OpenSpec.ofChange ripEncodesSpec)

/-- ITS FALSE NEIGHBOUR: 'it returns false'. Refute it at one input. -/
def ripEncodesWrong : ChangeSpec := { name := "ripEncodes", fn := fun _ => fun
  | [d] => { results := [.lit (.bool false)], args := [d] }
  | _ => none }
def RipEncodesWrongFalsely : Prop := ripEncodesRow.holds Try.pinned (OpenSpec.ofChange ripEncodesWrong)

/-- 'roadbooklaw10.RipBytes': WHATEVER THE INPUT: true; the input reads as it did. -/
def ripBytesSpec : ChangeSpec := { name := "ripBytes", fn := fun _ => fun
  | [d] => { results := [.lit (.bool true)], args := [d] }
  | _ => none }
def ripBytesRow : OpenClaim := { program := "ytnjhhopdiopbfaa", sum := "65369d79579c165a16d29edda620d0f65152878de36fe274c2373f8a416d8e17", func := "roadbook/roadbooklaw10.RipBytes", spec := "ripBytes", apart := false }
def RipBytesSaid : Prop := ripBytesRow.holds Try.pinned (OpenSpec.ofChange ripBytesSpec)

/-- ITS FALSE NEIGHBOUR: 'it returns false'. Refute it at one input. -/
def ripBytesWrong : ChangeSpec := { name := "ripBytes", fn := fun _ => fun
  | [d] => { results := [.lit (.bool false)], args := [d] }
  | _ => none }
def RipBytesWrongFalsely : Prop := ripBytesRow.holds Try.pinned (OpenSpec.ofChange ripBytesWrong)

/-- 'roadbooklaw10.RipBack': WHATEVER THE INPUT: true; the input reads as it did. -/
def ripBackSpec : ChangeSpec := { name := "ripBack", fn := fun _ => fun
  | [d1, d2] => { results := [.lit (.bool true)], args := [d1, d2] }
  | _ => none }
def ripBackRow : OpenClaim := { program := "ytnjhhopdiopbfaa", sum := "65369d79579c165a16d29edda620d0f65152878de36fe274c2373f8a416d8e17", func := "roadbook/roadbooklaw10.RipBack", spec := "ripBack", apart := false }
def RipBackSaid : Prop := ripBackRow.holds Try.pinned (OpenSpec.ofChange ripBackSpec)

/-- ITS FALSE NEIGHBOUR: 'it returns false'. Refute it at one input. -/
def ripBackWrong : ChangeSpec := { name := "ripBack", fn := fun _ => fun
  | [d1, d2] => { results := [.lit (.bool false)], args := [d1, d2] }
  | _ => none }
def RipBackWrongFalsely : Prop := ripBackRow.holds Try.pinned (OpenSpec.ofChange ripBackWrong)

/- THE SECOND FORM. 'bulk': how many values and letters a reading holds, each counted each time it is reached (what is shared counts as often as it is met; a slice's spare places count too). A statement '..UptoSaid' is the law's where the arguments, and the package variables that the reading takes, are together of bulk at most 1048576: NARROWER than '..Said'. Prove '..Said' where nothing that the law and all that it calls make is longer than what came in: it says more and counts as full. Else prove '..UptoSaid'. A law counts once. -/
mutual
def uptoBulk {H : Type} : DataW H → Nat
  | .lit (.string bytes) => bytes.length + 1
  | .lit _ => 1
  | .nil => 1
  | .ptr d => uptoBulk d + 1
  | .slice elems spare => uptoBulkAll elems + uptoBulkAll spare + 1
  | .agg parts => uptoBulkAll parts + 1
  | .iface _ d => uptoBulk d + 1
  | .map entries => uptoBulkEntries entries + 1
  | .held _ => 1
def uptoBulkAll {H : Type} : List (DataW H) → Nat
  | [] => 0
  | d :: r => uptoBulk d + uptoBulkAll r
def uptoBulkEntries {H : Type} : List (Lit × DataW H) → Nat
  | [] => 0
  | x :: r => uptoBulkEntry x + uptoBulkEntries r
def uptoBulkEntry {H : Type} : Lit × DataW H → Nat
  | (.string bytes, d) => bytes.length + uptoBulk d + 1
  | (_, d) => uptoBulk d + 1
 end
def uptoSmall : (H : Type) → List (DataW H) → Bool := fun _ ds => decide (uptoBulkAll ds ≤ 1048576)
def OpenSpec.upto (s : _root_.Go.ChangeSpec) : _root_.Go.OpenSpec := { _root_.Go.OpenSpec.ofChange s with cond := some uptoSmall }

/-- 'roadbooklaw10.RipParses', WHERE WHAT IT READS IS OF BULK AT MOST 1048576: true; the input reads as it did. -/
def ripParsesUptoRow : OpenClaim := { program := "ytnjhhopdiopbfaa", sum := "65369d79579c165a16d29edda620d0f65152878de36fe274c2373f8a416d8e17", func := "roadbook/roadbooklaw10.RipParses", spec := "ripParses", apart := false, narrowed := true }
def RipParsesUptoSaid : Prop := ripParsesUptoRow.holds Try.pinned (OpenSpec.upto ripParsesSpec)

/-- 'roadbooklaw10.RipEncodes', WHERE WHAT IT READS IS OF BULK AT MOST 1048576: true; the input reads as it did. -/
def ripEncodesUptoRow : OpenClaim := { program := "ytnjhhopdiopbfaa", sum := "65369d79579c165a16d29edda620d0f65152878de36fe274c2373f8a416d8e17", func := "roadbook/roadbooklaw10.RipEncodes", spec := "ripEncodes", apart := false, narrowed := true }
def RipEncodesUptoSaid : Prop := ripEncodesUptoRow.holds Try.pinned (OpenSpec.upto ripEncodesSpec)

/-- 'roadbooklaw10.RipBytes', WHERE WHAT IT READS IS OF BULK AT MOST 1048576: true; the input reads as it did. -/
def ripBytesUptoRow : OpenClaim := { program := "ytnjhhopdiopbfaa", sum := "65369d79579c165a16d29edda620d0f65152878de36fe274c2373f8a416d8e17", func := "roadbook/roadbooklaw10.RipBytes", spec := "ripBytes", apart := false, narrowed := true }
def RipBytesUptoSaid : Prop := ripBytesUptoRow.holds Try.pinned (OpenSpec.upto ripBytesSpec)

/-- 'roadbooklaw10.RipBack', WHERE WHAT IT READS IS OF BULK AT MOST 1048576: true; the input reads as it did. -/
def ripBackUptoRow : OpenClaim := { program := "ytnjhhopdiopbfaa", sum := "65369d79579c165a16d29edda620d0f65152878de36fe274c2373f8a416d8e17", func := "roadbook/roadbooklaw10.RipBack", spec := "ripBack", apart := false, narrowed := true }
def RipBackUptoSaid : Prop := ripBackUptoRow.holds Try.pinned (OpenSpec.upto ripBackSpec)

end Rows
end Go.Proofs.Ytnjhhopdiopbfaa
