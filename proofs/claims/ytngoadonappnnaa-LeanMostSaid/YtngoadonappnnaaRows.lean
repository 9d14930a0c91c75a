/-
  No cell of these rows narrows 'for every input' (looked for: loops, veiled, ifaces, maps, wideKeys, modest, calm, conditions, laid).
  DERIVED. THE GIVEN ROWS OF THIS SEAT. 8 by the template 'for every input the law returns true; each argument reads behind the call as it read before'; 0 by the template 'total and deterministic' (their statements: YtngoadonappnnaaTotals.lean).
  GIVEN WITH THE SEED: the statements are not yours to turn. If you find one false, say at which input.
  Laid BY PROGRAM, IN A SANDBOX (cutbox-rows.mjs): the forced cells as the released guide's own fill.sh prints them over the translation 8a2306bb86edb468… (all of the seat's roots in one cut). By AI agents, Wed Nov 11 2026. No macro, syntax, notation, axiom, sorry.
-/
import Derived.Test.YtngoadonappnnaaChecked
import GoSem.Claim
import GoSem.ClaimJoined
import GoSem.ClaimMapViews
import Derived.JoinedTies
import Derived.KernelRfl
namespace Go.Proofs.Ytngoadonappnnaa
/- THE CELL 'sum', in the pinned program and in every row, IS THE sha256 OF THE DUMP (.gsa) THAT YtngoadonappnnaaProg.lean LOADS. Nothing in Lean hashes anything: it is a label: what it is worth is what the hold of that sum in a sandbox is worth. -/
noncomputable def Try.pinned : Pinned := { name := "ytngoadonappnnaa", sum := "8a2306bb86edb468511de6970dddce28078ea1510456e8bd7fb32ed2b147b8ec", checked := Try.checked }
namespace Rows
def none {H : Type} : Left H := { results := [], args := [] }

/-- 'roadbooklaw24.LeanBack': WHATEVER THE INPUT: true; the input reads as it did. -/
def leanBackSpec : ChangeSpec := { name := "leanBack", fn := fun _ => fun
  | [d1, d2] => { results := [.lit (.bool true)], args := [d1, d2] }
  | _ => none }
def leanBackRow : OpenClaim := { program := "ytngoadonappnnaa", sum := "8a2306bb86edb468511de6970dddce28078ea1510456e8bd7fb32ed2b147b8ec", func := "roadbook/roadbooklaw24.LeanBack", spec := "leanBack", apart := false }
def LeanBackSaid : Prop := leanBackRow.holds Try.pinned (OpenSpec.ofChange leanBackSpec)

/-- ITS FALSE NEIGHBOUR: 'it returns false'. Refute it at one input. -/
def leanBackWrong : ChangeSpec := { name := "leanBack", fn := fun _ => fun
  | [d1, d2] => { results := [.lit (.bool false)], args := [d1, d2] }
  | _ => none }
def LeanBackWrongFalsely : Prop := leanBackRow.holds Try.pinned (OpenSpec.ofChange leanBackWrong)

/-- 'roadbooklaw24.LeanMost': WHATEVER THE INPUT: true; the input reads as it did. -/
def leanMostSpec : ChangeSpec := { name := "leanMost", fn := fun _ => fun
  | [d1, d2] => { results := [.lit (.bool true)], args := [d1, d2] }
  | _ => none }
def leanMostRow : OpenClaim := { program := "ytngoadonappnnaa", sum := "8a2306bb86edb468511de6970dddce28078ea1510456e8bd7fb32ed2b147b8ec", func := "roadbook/roadbooklaw24.LeanMost", spec := "leanMost", apart := false }
def LeanMostSaid : Prop := leanMostRow.holds Try.pinned (OpenSpec.ofChange leanMostSpec)

/-- ITS FALSE NEIGHBOUR: 'it returns false'. Refute it at one input. -/
def leanMostWrong : ChangeSpec := { name := "leanMost", fn := fun _ => fun
  | [d1, d2] => { results := [.lit (.bool false)], args := [d1, d2] }
  | _ => none }
def LeanMostWrongFalsely : Prop := leanMostRow.holds Try.pinned (OpenSpec.ofChange leanMostWrong)

/-- 'roadbooklaw24.LeanTells': WHATEVER THE INPUT: true; the input reads as it did. -/
def leanTellsSpec : ChangeSpec := { name := "leanTells", fn := fun _ => fun
  | [d1, d2] => { results := [.lit (.bool true)], args := [d1, d2] }
  | _ => none }
def leanTellsRow : OpenClaim := { program := "ytngoadonappnnaa", sum := "8a2306bb86edb468511de6970dddce28078ea1510456e8bd7fb32ed2b147b8ec", func := "roadbook/roadbooklaw24.LeanTells", spec := "leanTells", apart := false }
def LeanTellsSaid : Prop := leanTellsRow.holds Try.pinned (OpenSpec.ofChange leanTellsSpec)

/-- ITS FALSE NEIGHBOUR: 'it returns false'. Refute it at one input. -/
def leanTellsWrong : ChangeSpec := { name := "leanTells", fn := fun _ => fun
  | [d1, d2] => { results := [.lit (.bool false)], args := [d1, d2] }
  | _ => none }
def LeanTellsWrongFalsely : Prop := leanTellsRow.holds Try.pinned (OpenSpec.ofChange leanTellsWrong)

/-- 'roadbooklaw24.LeanPlain': WHATEVER THE INPUT: true; the input reads as it did. -/
def leanPlainSpec : ChangeSpec := { name := "leanPlain", fn := fun _ => fun
  | [d1, d2] => { results := [.lit (.bool true)], args := [d1, d2] }
  | _ => none }
def leanPlainRow : OpenClaim := { program := "ytngoadonappnnaa", sum := "8a2306bb86edb468511de6970dddce28078ea1510456e8bd7fb32ed2b147b8ec", func := "roadbook/roadbooklaw24.LeanPlain", spec := "leanPlain", apart := false }
def LeanPlainSaid : Prop := leanPlainRow.holds Try.pinned (OpenSpec.ofChange leanPlainSpec)

/-- ITS FALSE NEIGHBOUR: 'it returns false'. Refute it at one input. -/
def leanPlainWrong : ChangeSpec := { name := "leanPlain", fn := fun _ => fun
  | [d1, d2] => { results := [.lit (.bool false)], args := [d1, d2] }
  | _ => none }
def LeanPlainWrongFalsely : Prop := leanPlainRow.holds Try.pinned (OpenSpec.ofChange leanPlainWrong)

/-- 'roadbooklaw22.CtxTells': WHATEVER THE INPUT: true; the input reads as it did. -/
def ctxTellsSpec : ChangeSpec := { name := "ctxTells", fn := fun _ => fun
  | [d1, d2, d3] => { results := [.lit (.bool true)], args := [d1, d2, d3] }
  | _ => none }
def ctxTellsRow : OpenClaim := { program := "ytngoadonappnnaa", sum := "8a2306bb86edb468511de6970dddce28078ea1510456e8bd7fb32ed2b147b8ec", func := "roadbook/roadbooklaw22.CtxTells", spec := "ctxTells", apart := false }
def CtxTellsSaid : Prop := ctxTellsRow.holds Try.pinned (OpenSpec.ofChange ctxTellsSpec)

/-- ITS FALSE NEIGHBOUR: 'it returns false'. Refute it at one input. -/
def ctxTellsWrong : ChangeSpec := { name := "ctxTells", fn := fun _ => fun
  | [d1, d2, d3] => { results := [.lit (.bool false)], args := [d1, d2, d3] }
  | _ => none }
def CtxTellsWrongFalsely : Prop := ctxTellsRow.holds Try.pinned (OpenSpec.ofChange ctxTellsWrong)

/-- 'roadbooklaw22.CtxFolds': WHATEVER THE INPUT: true; the input reads as it did. -/
def ctxFoldsSpec : ChangeSpec := { name := "ctxFolds", fn := fun _ => fun
  | [d] => { results := [.lit (.bool true)], args := [d] }
  | _ => none }
def ctxFoldsRow : OpenClaim := { program := "ytngoadonappnnaa", sum := "8a2306bb86edb468511de6970dddce28078ea1510456e8bd7fb32ed2b147b8ec", func := "roadbook/roadbooklaw22.CtxFolds", spec := "ctxFolds", apart := false }
def CtxFoldsSaid : Prop := ctxFoldsRow.holds Try.pinned (OpenSpec.ofChange ctxFoldsSpec)

/-- ITS FALSE NEIGHBOUR: 'it returns false'. Refute it at one input. -/
def ctxFoldsWrong : ChangeSpec := { name := "ctxFolds", fn := fun _ => fun
  | [d] => { results := [.lit (.bool false)], args := [d] }
  | _ => none }
def CtxFoldsWrongFalsely : Prop := ctxFoldsRow.holds Try.pinned (OpenSpec.ofChange ctxFoldsWrong)

/-- 'roadbooklaw22.CtxBytes': WHATEVER THE INPUT: true; the input reads as it did. -/
def ctxBytesSpec : ChangeSpec := { name := "ctxBytes", fn := fun _ => fun
  | [d1, d2, d3] => { results := [.lit (.bool true)], args := [d1, d2, d3] }
  | _ => none }
def ctxBytesRow : OpenClaim := { program := "ytngoadonappnnaa", sum := "8a2306bb86edb468511de6970dddce28078ea1510456e8bd7fb32ed2b147b8ec", func := "roadbook/roadbooklaw22.CtxBytes", spec := "ctxBytes", apart := false }
def CtxBytesSaid : Prop := ctxBytesRow.holds Try.pinned (OpenSpec.ofChange ctxBytesSpec)

/-- ITS FALSE NEIGHBOUR: 'it returns false'. Refute it at one input. -/
def ctxBytesWrong : ChangeSpec := { name := "ctxBytes", fn := fun _ => fun
  | [d1, d2, d3] => { results := [.lit (.bool false)], args := [d1, d2, d3] }
  | _ => none }
def CtxBytesWrongFalsely : Prop := ctxBytesRow.holds Try.pinned (OpenSpec.ofChange ctxBytesWrong)

/-- 'roadbooklaw22.CtxFar': WHATEVER THE INPUT: true; the input reads as it did. -/
def ctxFarSpec : ChangeSpec := { name := "ctxFar", fn := fun _ => fun
  | [d1, d2] => { results := [.lit (.bool true)], args := [d1, d2] }
  | _ => none }
def ctxFarRow : OpenClaim := { program := "ytngoadonappnnaa", sum := "8a2306bb86edb468511de6970dddce28078ea1510456e8bd7fb32ed2b147b8ec", func := "roadbook/roadbooklaw22.CtxFar", spec := "ctxFar", apart := false }
def CtxFarSaid : Prop := ctxFarRow.holds Try.pinned (OpenSpec.ofChange ctxFarSpec)

/-- ITS FALSE NEIGHBOUR: 'it returns false'. Refute it at one input. -/
def ctxFarWrong : ChangeSpec := { name := "ctxFar", fn := fun _ => fun
  | [d1, d2] => { results := [.lit (.bool false)], args := [d1, d2] }
  | _ => none }
def CtxFarWrongFalsely : Prop := ctxFarRow.holds Try.pinned (OpenSpec.ofChange ctxFarWrong)

/- THE SECOND FORM. 'bulk': how many values and letters a reading holds, each counted each time it is reached (what is shared counts as often as it is met; a slice's spare places count too). A statement '..UptoSaid' is the law's where the arguments, and the package variables that the reading takes, are together of bulk at most 1048576: NARROWER than '..Said'. Prove '..Said' where nothing that the law and all that it calls make is longer than what came in: it says more and counts as full. Else prove '..UptoSaid'. A law counts once. -/
mutual
def uptoBulk {H : Type} : DataW H → Nat
  | .lit (.string bytes) => bytes.length + 1
  | .lit _ => 1
  | .nil => 1
  | .ptr d => uptoBulk d + 1
  | .slice elems spare => uptoBulkAll elems + uptoBulkAll spare + 1
  | .agg parts => uptoBulkAll parts + 1
  | .iface _ d => uptoBulk d + 1
  | .map entries => uptoBulkEntries entries + 1
  | .held _ => 1
def uptoBulkAll {H : Type} : List (DataW H) → Nat
  | [] => 0
  | d :: r => uptoBulk d + uptoBulkAll r
def uptoBulkEntries {H : Type} : List (Lit × DataW H) → Nat
  | [] => 0
  | x :: r => uptoBulkEntry x + uptoBulkEntries r
def uptoBulkEntry {H : Type} : Lit × DataW H → Nat
  | (.string bytes, d) => bytes.length + uptoBulk d + 1
  | (_, d) => uptoBulk d + 1
 end
def uptoSmall : (H : Type) → List (DataW H) → Bool := fun _ ds => decide (uptoBulkAll ds ≤ 1048576)
def OpenSpec.upto (s : _root_.Go.ChangeSpec) : _root_.Go.OpenSpec := { _root_.Go.OpenSpec.ofChange s with cond := some uptoSmall }

/-- 'roadbooklaw24.LeanBack', WHERE WHAT IT READS IS OF BULK AT MOST 1048576: true; the input reads as it did. -/
def leanBackUptoRow : OpenClaim := { program := "ytngoadonappnnaa", sum := "8a2306bb86edb468511de6970dddce28078ea1510456e8bd7fb32ed2b147b8ec", func := "roadbook/roadbooklaw24.LeanBack", spec := "leanBack", apart := false, narrowed := true }
def LeanBackUptoSaid : Prop := leanBackUptoRow.holds Try.pinned (OpenSpec.upto leanBackSpec)

/-- 'roadbooklaw24.LeanMost', WHERE WHAT IT READS IS OF BULK AT MOST 1048576: true; the input reads as it did. -/
def leanMostUptoRow : OpenClaim := { program := "ytngoadonappnnaa", sum := "8a2306bb86edb468511de6970dddce28078ea1510456e8bd7fb32ed2b147b8ec", func := "roadbook/roadbooklaw24.LeanMost", spec := "leanMost", apart := false, narrowed := true }
def LeanMostUptoSaid : Prop := leanMostUptoRow.holds Try.pinned (OpenSpec.upto leanMostSpec)

/-- 'roadbooklaw24.LeanTells', WHERE WHAT IT READS IS OF BULK AT MOST 1048576: true; the input reads as it did. -/
def leanTellsUptoRow : OpenClaim := { program := "ytngoadonappnnaa", sum := "8a2306bb86edb468511de6970dddce28078ea1510456e8bd7fb32ed2b147b8ec", func := "roadbook/roadbooklaw24.LeanTells", spec := "leanTells", apart := false, narrowed := true }
def LeanTellsUptoSaid : Prop := leanTellsUptoRow.holds Try.pinned (OpenSpec.upto leanTellsSpec)

/-- 'roadbooklaw24.LeanPlain', WHERE WHAT IT READS IS OF BULK AT MOST 1048576: true; the input reads as it did. -/
def leanPlainUptoRow : OpenClaim := { program := "ytngoadonappnnaa", sum := "8a2306bb86edb468511de6970dddce28078ea1510456e8bd7fb32ed2b147b8ec", func := "roadbook/roadbooklaw24.LeanPlain", spec := "leanPlain", apart := false, narrowed := true }
def LeanPlainUptoSaid : Prop := leanPlainUptoRow.holds Try.pinned (OpenSpec.upto leanPlainSpec)

/-- 'roadbooklaw22.CtxTells', WHERE WHAT IT READS IS OF BULK AT MOST 1048576: true; the input reads as it did. -/
def ctxTellsUptoRow : OpenClaim := { program := "ytngoadonappnnaa", sum := "8a2306bb86edb468511de6970dddce28078ea1510456e8bd7fb32ed2b147b8ec", func := "roadbook/roadbooklaw22.CtxTells", spec := "ctxTells", apart := false, narrowed := true }
def CtxTellsUptoSaid : Prop := ctxTellsUptoRow.holds Try.pinned (OpenSpec.upto ctxTellsSpec)

/-- 'roadbooklaw22.CtxFolds', WHERE WHAT IT READS IS OF BULK AT MOST 1048576: true; the input reads as it did. -/
def ctxFoldsUptoRow : OpenClaim := { program := "ytngoadonappnnaa", sum := "8a2306bb86edb468511de6970dddce28078ea1510456e8bd7fb32ed2b147b8ec", func := "roadbook/roadbooklaw22.CtxFolds", spec := "ctxFolds", apart := false, narrowed := true }
def CtxFoldsUptoSaid : Prop := ctxFoldsUptoRow.holds Try.pinned (OpenSpec.upto ctxFoldsSpec)

/-- 'roadbooklaw22.CtxBytes', WHERE WHAT IT READS IS OF BULK AT MOST 1048576: true; the input reads as it did. -/
def ctxBytesUptoRow : OpenClaim := { program := "ytngoadonappnnaa", sum := "8a2306bb86edb468511de6970dddce28078ea1510456e8bd7fb32ed2b147b8ec", func := "roadbook/roadbooklaw22.CtxBytes", spec := "ctxBytes", apart := false, narrowed := true }
def CtxBytesUptoSaid : Prop := ctxBytesUptoRow.holds Try.pinned (OpenSpec.upto ctxBytesSpec)

/-- 'roadbooklaw22.CtxFar', WHERE WHAT IT READS IS OF BULK AT MOST 1048576: true; the input reads as it did. -/
def ctxFarUptoRow : OpenClaim := { program := "ytngoadonappnnaa", sum := "8a2306bb86edb468511de6970dddce28078ea1510456e8bd7fb32ed2b147b8ec", func := "roadbook/roadbooklaw22.CtxFar", spec := "ctxFar", apart := false, narrowed := true }
def CtxFarUptoSaid : Prop := ctxFarUptoRow.holds Try.pinned (OpenSpec.upto ctxFarSpec)

end Rows
end Go.Proofs.Ytngoadonappnnaa
