/-
  No cell of these rows narrows 'for every input' (looked for: loops, veiled, ifaces, maps, wideKeys, modest, calm, conditions, laid).
  DERIVED. THE GIVEN ROWS OF THIS SEAT. 9 by the template 'for every input the law returns true; each argument reads behind the call as it read before'; 0 by the template 'total and deterministic' (their statements: YtjgnpggpgkkknaaTotals.lean).
  GIVEN WITH THE SEED: the statements are not yours to turn. If you find one false, say at which input.
  Laid BY PROGRAM, IN A SANDBOX (cutbox-rows.mjs): the forced cells as the released guide's own fill.sh prints them over the translation 8a2b37e4c1a7edc1… (all of the seat's roots in one cut). By AI agents, Wed Nov 11 2026. No macro, syntax, notation, axiom, sorry.
-/
import Derived.Test.YtjgnpggpgkkknaaChecked
import GoSem.Claim
import GoSem.ClaimJoined
import GoSem.ClaimMapViews
import Derived.JoinedTies
import Derived.KernelRfl
namespace Go.Proofs.Ytjgnpggpgkkknaa
/- THE CELL 'sum', in the pinned program and in every row, IS THE sha256 OF THE DUMP (.gsa) THAT YtjgnpggpgkkknaaProg.lean LOADS. Nothing in Lean hashes anything: it is a label: what it is worth is what the hold of that sum in a sandbox is worth. -/
noncomputable def Try.pinned : Pinned := { name := "ytjgnpggpgkkknaa", sum := "8a2b37e4c1a7edc19120d053d21dda958d695e36b0ce34f70717aeac297c1910", checked := Try.checked }
namespace Rows
def none {H : Type} : Left H := { results := [], args := [] }

/-- 'roadbooklaw08.EntryTells': WHATEVER THE INPUT: true; the input reads as it did. -/
def entryTellsSpec : ChangeSpec := { name := "entryTells", fn := fun _ => fun
  | [d1, d2] => { results := [.lit (.bool true)], args := [d1, d2] }
  | _ => none }
def entryTellsRow : OpenClaim := { program := "ytjgnpggpgkkknaa", sum := "8a2b37e4c1a7edc19120d053d21dda958d695e36b0ce34f70717aeac297c1910", func := "roadbook/roadbooklaw08.EntryTells", spec := "entryTells", apart := false }
def EntryTellsSaid : Prop := entryTellsRow.holds Try.pinned (OpenSpec.ofChange entryTellsSpec)

/-- ITS FALSE NEIGHBOUR: 'it returns false'. Refute it at one input. -/
def entryTellsWrong : ChangeSpec := { name := "entryTells", fn := fun _ => fun
  | [d1, d2] => { results := [.lit (.bool false)], args := [d1, d2] }
  | _ => none }
def EntryTellsWrongFalsely : Prop := entryTellsRow.holds Try.pinned (OpenSpec.ofChange entryTellsWrong)

/-- 'roadbooklaw08.EntryBack': WHATEVER THE INPUT: true; the input reads as it did. -/
def entryBackSpec : ChangeSpec := { name := "entryBack", fn := fun _ => fun
  | [d1, d2] => { results := [.lit (.bool true)], args := [d1, d2] }
  | _ => none }
def entryBackRow : OpenClaim := { program := "ytjgnpggpgkkknaa", sum := "8a2b37e4c1a7edc19120d053d21dda958d695e36b0ce34f70717aeac297c1910", func := "roadbook/roadbooklaw08.EntryBack", spec := "entryBack", apart := false }
def EntryBackSaid : Prop := entryBackRow.holds Try.pinned (OpenSpec.ofChange entryBackSpec)

/-- ITS FALSE NEIGHBOUR: 'it returns false'. Refute it at one input. -/
def entryBackWrong : ChangeSpec := { name := "entryBack", fn := fun _ => fun
  | [d1, d2] => { results := [.lit (.bool false)], args := [d1, d2] }
  | _ => none }
def EntryBackWrongFalsely : Prop := entryBackRow.holds Try.pinned (OpenSpec.ofChange entryBackWrong)

/-- 'roadbooklaw18.FrameJoins': WHATEVER THE INPUT: true; the input reads as it did. -/
def frameJoinsSpec : ChangeSpec := { name := "frameJoins", fn := fun _ => fun
  | [d1, d2] => { results := [.lit (.bool true)], args := [d1, d2] }
  | _ => none }
def frameJoinsRow : OpenClaim := { program := "ytjgnpggpgkkknaa", sum := "8a2b37e4c1a7edc19120d053d21dda958d695e36b0ce34f70717aeac297c1910", func := "roadbook/roadbooklaw18.FrameJoins", spec := "frameJoins", apart := false }
def FrameJoinsSaid : Prop := frameJoinsRow.holds Try.pinned (OpenSpec.ofChange frameJoinsSpec)

/-- ITS FALSE NEIGHBOUR: 'it returns false'. Refute it at one input. -/
def frameJoinsWrong : ChangeSpec := { name := "frameJoins", fn := fun _ => fun
  | [d1, d2] => { results := [.lit (.bool false)], args := [d1, d2] }
  | _ => none }
def FrameJoinsWrongFalsely : Prop := frameJoinsRow.holds Try.pinned (OpenSpec.ofChange frameJoinsWrong)

/-- 'roadbooklaw18.FrameBodies': WHATEVER THE INPUT: true; the input reads as it did. -/
def frameBodiesSpec : ChangeSpec := { name := "frameBodies", fn := fun _ => fun
  | [d] => { results := [.lit (.bool true)], args := [d] }
  | _ => none }
def frameBodiesRow : OpenClaim := { program := "ytjgnpggpgkkknaa", sum := "8a2b37e4c1a7edc19120d053d21dda958d695e36b0ce34f70717aeac297c1910", func := "roadbook/roadbooklaw18.FrameBodies", spec := "frameBodies", apart := false }
def FrameBodiesSaid : Prop := frameBodiesRow.holds Try.pinned (OpenSpec.ofChange frameBodiesSpec)

/-- ITS FALSE NEIGHBOUR: 'it returns false'. Refute it at one input. -/
def frameBodiesWrong : ChangeSpec := { name := "frameBodies", fn := fun _ => fun
  | [d] => { results := [.lit (.bool false)], args := [d] }
  | _ => none }
def FrameBodiesWrongFalsely : Prop := frameBodiesRow.holds Try.pinned (OpenSpec.ofChange frameBodiesWrong)

/-- 'roadbooklaw18.FrameSplits': WHATEVER THE INPUT: true; the input reads as it did. -/
def frameSplitsSpec : ChangeSpec := { name := "frameSplits", fn := fun _ => fun
  | [d] => { results := [.lit (.bool true)], args := [d] }
  | _ => none }
def frameSplitsRow : OpenClaim := { program := "ytjgnpggpgkkknaa", sum := "8a2b37e4c1a7edc19120d053d21dda958d695e36b0ce34f70717aeac297c1910", func := "roadbook/roadbooklaw18.FrameSplits", spec := "frameSplits", apart := false }
def FrameSplitsSaid : Prop := frameSplitsRow.holds Try.pinned (OpenSpec.ofChange frameSplitsSpec)

/-- ITS FALSE NEIGHBOUR: 'it returns false'. Refute it at one input. -/
def frameSplitsWrong : ChangeSpec := { name := "frameSplits", fn := fun _ => fun
  | [d] => { results := [.lit (.bool false)], args := [d] }
  | _ => none }
def FrameSplitsWrongFalsely : Prop := frameSplitsRow.holds Try.pinned (OpenSpec.ofChange frameSplitsWrong)

/-- 'roadbooklaw18.FrameBack': WHATEVER THE INPUT: true; the input reads as it did. -/
def frameBackSpec : ChangeSpec := { name := "frameBack", fn := fun _ => fun
  | [d1, d2] => { results := [.lit (.bool true)], args := [d1, d2] }
  | _ => none }
def frameBackRow : OpenClaim := { program := "ytjgnpggpgkkknaa", sum := "8a2b37e4c1a7edc19120d053d21dda958d695e36b0ce34f70717aeac297c1910", func := "roadbook/roadbooklaw18.FrameBack", spec := "frameBack", apart := false }
def FrameBackSaid : Prop := frameBackRow.holds Try.pinned (OpenSpec.ofChange frameBackSpec)

/-- ITS FALSE NEIGHBOUR: 'it returns false'. Refute it at one input. -/
def frameBackWrong : ChangeSpec := { name := "frameBack", fn := fun _ => fun
  | [d1, d2] => { results := [.lit (.bool false)], args := [d1, d2] }
  | _ => none }
def FrameBackWrongFalsely : Prop := frameBackRow.holds Try.pinned (OpenSpec.ofChange frameBackWrong)

/-- 'roadbooklaw19.SubTells': WHATEVER THE INPUT: true; the input reads as it did. -/
def subTellsSpec : ChangeSpec := { name := "subTells", fn := fun _ => fun
  | [d1, d2] => { results := [.lit (.bool true)], args := [d1, d2] }
  | _ => none }
def subTellsRow : OpenClaim := { program := "ytjgnpggpgkkknaa", sum := "8a2b37e4c1a7edc19120d053d21dda958d695e36b0ce34f70717aeac297c1910", func := "roadbook/roadbooklaw19.SubTells", spec := "subTells", apart := false }
def SubTellsSaid : Prop := subTellsRow.holds Try.pinned (OpenSpec.ofChange subTellsSpec)

/-- ITS FALSE NEIGHBOUR: 'it returns false'. Refute it at one input. -/
def subTellsWrong : ChangeSpec := { name := "subTells", fn := fun _ => fun
  | [d1, d2] => { results := [.lit (.bool false)], args := [d1, d2] }
  | _ => none }
def SubTellsWrongFalsely : Prop := subTellsRow.holds Try.pinned (OpenSpec.ofChange subTellsWrong)

/-- 'roadbooklaw19.SubBack': WHATEVER THE INPUT: true; the input reads as it did. -/
def subBackSpec : ChangeSpec := { name := "subBack", fn := fun _ => fun
  | [d1, d2] => { results := [.lit (.bool true)], args := [d1, d2] }
  | _ => none }
def subBackRow : OpenClaim := { program := "ytjgnpggpgkkknaa", sum := "8a2b37e4c1a7edc19120d053d21dda958d695e36b0ce34f70717aeac297c1910", func := "roadbook/roadbooklaw19.SubBack", spec := "subBack", apart := false }
def SubBackSaid : Prop := subBackRow.holds Try.pinned (OpenSpec.ofChange subBackSpec)

/-- ITS FALSE NEIGHBOUR: 'it returns false'. Refute it at one input. -/
def subBackWrong : ChangeSpec := { name := "subBack", fn := fun _ => fun
  | [d1, d2] => { results := [.lit (.bool false)], args := [d1, d2] }
  | _ => none }
def SubBackWrongFalsely : Prop := subBackRow.holds Try.pinned (OpenSpec.ofChange subBackWrong)

/-- 'roadbooklaw19.SubPads': WHATEVER THE INPUT: true; the input reads as it did. -/
def subPadsSpec : ChangeSpec := { name := "subPads", fn := fun _ => fun
  | [d1, d2] => { results := [.lit (.bool true)], args := [d1, d2] }
  | _ => none }
def subPadsRow : OpenClaim := { program := "ytjgnpggpgkkknaa", sum := "8a2b37e4c1a7edc19120d053d21dda958d695e36b0ce34f70717aeac297c1910", func := "roadbook/roadbooklaw19.SubPads", spec := "subPads", apart := false }
def SubPadsSaid : Prop := subPadsRow.holds Try.pinned (OpenSpec.ofChange subPadsSpec)

/-- ITS FALSE NEIGHBOUR: 'it returns false'. Refute it at one input. -/
def subPadsWrong : ChangeSpec := { name := "subPads", fn := fun _ => fun
  | [d1, d2] => { results := [.lit (.bool false)], args := [d1, d2] }
  | _ => none }
def SubPadsWrongFalsely : Prop := subPadsRow.holds Try.pinned (OpenSpec.ofChange subPadsWrong)

/- THE SECOND FORM. 'bulk': how many values and letters a reading holds, each counted each time it is reached (what is shared counts as often as it is met; a slice's spare places count too). A statement '..UptoSaid' is the law's where the arguments, and the package variables that the reading takes, are together of bulk at most 1048576: NARROWER than '..Said'. Prove '..Said' where nothing that the law and all that it calls make is longer than what came in: it says more and counts as full. Else prove '..UptoSaid'. A law counts once. -/
mutual
def uptoBulk {H : Type} : DataW H → Nat
  | .lit (.string bytes) => bytes.length + 1
  | .lit _ => 1
  | .nil => 1
  | .ptr d => uptoBulk d + 1
  | .slice elems spare => uptoBulkAll elems + uptoBulkAll spare + 1
  | .agg parts => uptoBulkAll parts + 1
  | .iface _ d => uptoBulk d + 1
  | .map entries => uptoBulkEntries entries + 1
  | .held _ => 1
def uptoBulkAll {H : Type} : List (DataW H) → Nat
  | [] => 0
  | d :: r => uptoBulk d + uptoBulkAll r
def uptoBulkEntries {H : Type} : List (Lit × DataW H) → Nat
  | [] => 0
  | x :: r => uptoBulkEntry x + uptoBulkEntries r
def uptoBulkEntry {H : Type} : Lit × DataW H → Nat
  | (.string bytes, d) => bytes.length + uptoBulk d + 1
  | (_, d) => uptoBulk d + 1
 end
def uptoSmall : (H : Type) → List (DataW H) → Bool := fun _ ds => decide (uptoBulkAll ds ≤ 1048576)
def OpenSpec.upto (s : _root_.Go.ChangeSpec) : _root_.Go.OpenSpec := { _root_.Go.OpenSpec.ofChange s with cond := some uptoSmall }

/-- 'roadbooklaw08.EntryTells', WHERE WHAT IT READS IS OF BULK AT MOST 1048576: true; the input reads as it did. -/
def entryTellsUptoRow : OpenClaim := { program := "ytjgnpggpgkkknaa", sum := "8a2b37e4c1a7edc19120d053d21dda958d695e36b0ce34f70717aeac297c1910", func := "roadbook/roadbooklaw08.EntryTells", spec := "entryTells", apart := false, narrowed := true }
def EntryTellsUptoSaid : Prop := entryTellsUptoRow.holds Try.pinned (OpenSpec.upto entryTellsSpec)

/-- 'roadbooklaw08.EntryBack', WHERE WHAT IT READS IS OF BULK AT MOST 1048576: true; the input reads as it did. -/
def entryBackUptoRow : OpenClaim := { program := "ytjgnpggpgkkknaa", sum := "8a2b37e4c1a7edc19120d053d21dda958d695e36b0ce34f70717aeac297c1910", func := "roadbook/roadbooklaw08.EntryBack", spec := "entryBack", apart := false, narrowed := true }
def EntryBackUptoSaid : Prop := entryBackUptoRow.holds Try.pinned (OpenSpec.upto entryBackSpec)

/-- 'roadbooklaw18.FrameJoins', WHERE WHAT IT READS IS OF BULK AT MOST 1048576: true; the input reads as it did. -/
def frameJoinsUptoRow : OpenClaim := { program := "ytjgnpggpgkkknaa", sum := "8a2b37e4c1a7edc19120d053d21dda958d695e36b0ce34f70717aeac297c1910", func := "roadbook/roadbooklaw18.FrameJoins", spec := "frameJoins", apart := false, narrowed := true }
def FrameJoinsUptoSaid : Prop := frameJoinsUptoRow.holds Try.pinned (OpenSpec.upto frameJoinsSpec)

/-- 'roadbooklaw18.FrameBodies', WHERE WHAT IT READS IS OF BULK AT MOST 1048576: true; the input reads as it did. -/
def frameBodiesUptoRow : OpenClaim := { program := "ytjgnpggpgkkknaa", sum := "8a2b37e4c1a7edc19120d053d21dda958d695e36b0ce34f70717aeac297c1910", func := "roadbook/roadbooklaw18.FrameBodies", spec := "frameBodies", apart := false, narrowed := true }
def FrameBodiesUptoSaid : Prop := frameBodiesUptoRow.holds Try.pinned (OpenSpec.upto frameBodiesSpec)

/-- 'roadbooklaw18.FrameSplits', WHERE WHAT IT READS IS OF BULK AT MOST 1048576: true; the input reads as it did. -/
def frameSplitsUptoRow : OpenClaim := { program := "ytjgnpggpgkkknaa", sum := "8a2b37e4c1a7edc19120d053d21dda958d695e36b0ce34f70717aeac297c1910", func := "roadbook/roadbooklaw18.FrameSplits", spec := "frameSplits", apart := false, narrowed := true }
def FrameSplitsUptoSaid : Prop := frameSplitsUptoRow.holds Try.pinned (OpenSpec.upto frameSplitsSpec)

/-- 'roadbooklaw18.FrameBack', WHERE WHAT IT READS IS OF BULK AT MOST 1048576: true; the input reads as it did. -/
def frameBackUptoRow : OpenClaim := { program := "ytjgnpggpgkkknaa", sum := "8a2b37e4c1a7edc19120d053d21dda958d695e36b0ce34f70717aeac297c1910", func := "roadbook/roadbooklaw18.FrameBack", spec := "frameBack", apart := false, narrowed := true }
def FrameBackUptoSaid : Prop := frameBackUptoRow.holds Try.pinned (OpenSpec.upto frameBackSpec)

/-- 'roadbooklaw19.SubTells', WHERE WHAT IT READS IS OF BULK AT MOST 1048576: true; the input reads as it did. -/
def subTellsUptoRow : OpenClaim := { program := "ytjgnpggpgkkknaa", sum := "8a2b37e4c1a7edc19120d053d21dda958d695e36b0ce34f70717aeac297c1910", func := "roadbook/roadbooklaw19.SubTells", spec := "subTells", apart := false, narrowed := true }
def SubTellsUptoSaid : Prop := subTellsUptoRow.holds Try.pinned (OpenSpec.upto subTellsSpec)

/-- 'roadbooklaw19.SubBack', WHERE WHAT IT READS IS OF BULK AT MOST 1048576: true; the input reads as it did. -/
def subBackUptoRow : OpenClaim := { program := "ytjgnpggpgkkknaa", sum := "8a2b37e4c1a7edc19120d053d21dda958d695e36b0ce34f70717aeac297c1910", func := "roadbook/roadbooklaw19.SubBack", spec := "subBack", apart := false, narrowed := true }
def SubBackUptoSaid : Prop := subBackUptoRow.holds Try.pinned (OpenSpec.upto subBackSpec)

/-- 'roadbooklaw19.SubPads', WHERE WHAT IT READS IS OF BULK AT MOST 1048576: true; the input reads as it did. -/
def subPadsUptoRow : OpenClaim := { program := "ytjgnpggpgkkknaa", sum := "8a2b37e4c1a7edc19120d053d21dda958d695e36b0ce34f70717aeac297c1910", func := "roadbook/roadbooklaw19.SubPads", spec := "subPads", apart := false, narrowed := true }
def SubPadsUptoSaid : Prop := subPadsUptoRow.holds Try.pinned (OpenSpec.upto subPadsSpec)

end Rows
end Go.Proofs.Ytjgnpggpgkkknaa
