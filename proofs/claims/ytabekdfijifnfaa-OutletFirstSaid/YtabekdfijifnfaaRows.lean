/-
  No cell of these rows narrows 'for every input' (looked for: loops, veiled, ifaces, maps, wideKeys, modest, calm, conditions, laid).
  DERIVED. THE GIVEN ROWS OF THIS SEAT. 9 by the template 'for every input the law returns true; each argument reads behind the call as it read before'; 0 by the template 'total and deterministic' (their statements: YtabekdfijifnfaaTotals.lean).
  GIVEN WITH THE SEED: the statements are not yours to turn. If you find one false, say at which input.
  Laid BY PROGRAM, IN A SANDBOX (cutbox-rows.mjs): the forced cells as the released guide's own fill.sh prints them over the translation acb9bd506f2656b0… (all of the seat's roots in one cut). By AI agents, Wed Nov 11 2026. No macro, syntax, notation, axiom, sorry.
-/
import Derived.Test.YtabekdfijifnfaaChecked
import GoSem.Claim
import GoSem.ClaimJoined
import GoSem.ClaimMapViews
import Derived.JoinedTies
import Derived.KernelRfl
namespace Go.Proofs.Ytabekdfijifnfaa
/- THE CELL 'sum', in the pinned program and in every row, IS THE sha256 OF THE DUMP (.gsa) THAT YtabekdfijifnfaaProg.lean LOADS. Nothing in Lean hashes anything: it is a label: what it is worth is what the hold of that sum in a sandbox is worth. -/
noncomputable def Try.pinned : Pinned := { name := "ytabekdfijifnfaa", sum := "acb9bd506f2656b0d71382a5eb83c4b77206337051c59c4fd9141201027733ee", checked := Try.checked }
namespace Rows
def none {H : Type} : Left H := { results := [], args := [] }

/-- 'roadbooklaw25.OutletEncodes': WHATEVER THE INPUT: true; the input reads as it did. -/
def outletEncodesSpec : ChangeSpec := { name := "outletEncodes", fn := fun _ => fun
  | [d] => { results := [.lit (.bool true)], args := [d] }
  | _ => none }
def outletEncodesRow : OpenClaim := { program := "ytabekdfijifnfaa", sum := "acb9bd506f2656b0d71382a5eb83c4b77206337051c59c4fd9141201027733ee", func := "roadbook/roadbooklaw25.OutletEncodes", spec := "outletEncodes", apart := false }
def OutletEncodesSaid : Prop := outletEncodesRow.holds Try.pinned (OpenSpec.ofChange outletEncodesSpec)

/-- ITS FALSE NEIGHBOUR: 'it returns false'. Refute it at one input. -/
def outletEncodesWrong : ChangeSpec := { name := "outletEncodes", fn := fun _ => fun
  | [d] => { results := [.lit (.bool false)], args := [d] }
  | _ => none }
def OutletEncodesWrongFalsely : Prop := outletEncodesRow.holds Try.pinned (OpenSpec.ofChange outletEncodesWrong)

/-- 'roadbooklaw25.OutletBack': WHATEVER THE INPUT: true; the input reads as it did. -/
def outletBackSpec : ChangeSpec := { name := "outletBack", fn := fun _ => fun
  | [d] => { results := [.lit (.bool true)], args := [d] }
  | _ => none }
def outletBackRow : OpenClaim := { program := "ytabekdfijifnfaa", sum := "acb9bd506f2656b0d71382a5eb83c4b77206337051c59c4fd9141201027733ee", func := "roadbook/roadbooklaw25.OutletBack", spec := "outletBack", apart := false }
def OutletBackSaid : Prop := outletBackRow.holds Try.pinned (OpenSpec.ofChange outletBackSpec)

/-- ITS FALSE NEIGHBOUR: 'it returns false'. Refute it at one input. -/
def outletBackWrong : ChangeSpec := { name := "outletBack", fn := fun _ => fun
  | [d] => { results := [.lit (.bool false)], args := [d] }
  | _ => none }
def OutletBackWrongFalsely : Prop := outletBackRow.holds Try.pinned (OpenSpec.ofChange outletBackWrong)

/-- 'roadbooklaw25.OutletAgain': WHATEVER THE INPUT: true; the input reads as it did. -/
def outletAgainSpec : ChangeSpec := { name := "outletAgain", fn := fun _ => fun
  | [d] => { results := [.lit (.bool true)], args := [d] }
  | _ => none }
def outletAgainRow : OpenClaim := { program := "ytabekdfijifnfaa", sum := "acb9bd506f2656b0d71382a5eb83c4b77206337051c59c4fd9141201027733ee", func := "roadbook/roadbooklaw25.OutletAgain", spec := "outletAgain", apart := false }
def OutletAgainSaid : Prop := outletAgainRow.holds Try.pinned (OpenSpec.ofChange outletAgainSpec)

/-- ITS FALSE NEIGHBOUR: 'it returns false'. Refute it at one input. -/
def outletAgainWrong : ChangeSpec := { name := "outletAgain", fn := fun _ => fun
  | [d] => { results := [.lit (.bool false)], args := [d] }
  | _ => none }
def OutletAgainWrongFalsely : Prop := outletAgainRow.holds Try.pinned (OpenSpec.ofChange outletAgainWrong)

/-- 'roadbooklaw25.OutletFirst': WHATEVER THE INPUT: true; the input reads as it did. -/
def outletFirstSpec : ChangeSpec := { name := "outletFirst", fn := fun _ => fun
  | [d1, d2] => { results := [.lit (.bool true)], args := [d1, d2] }
  | _ => none }
def outletFirstRow : OpenClaim := { program := "ytabekdfijifnfaa", sum := "acb9bd506f2656b0d71382a5eb83c4b77206337051c59c4fd9141201027733ee", func := "roadbook/roadbooklaw25.OutletFirst", spec := "outletFirst", apart := false }
def OutletFirstSaid : Prop := outletFirstRow.holds Try.pinned (OpenSpec.ofChange outletFirstSpec)

/-- ITS FALSE NEIGHBOUR: 'it returns false'. Refute it at one input. -/
def outletFirstWrong : ChangeSpec := { name := "outletFirst", fn := fun _ => fun
  | [d1, d2] => { results := [.lit (.bool false)], args := [d1, d2] }
  | _ => none }
def OutletFirstWrongFalsely : Prop := outletFirstRow.holds Try.pinned (OpenSpec.ofChange outletFirstWrong)

/-- 'roadbooklaw23.IntakeParses': WHATEVER THE INPUT: true; the input reads as it did. -/
def intakeParsesSpec : ChangeSpec := { name := "intakeParses", fn := fun _ => fun
  | [d] => { results := [.lit (.bool true)], args := [d] }
  | _ => none }
def intakeParsesRow : OpenClaim := { program := "ytabekdfijifnfaa", sum := "acb9bd506f2656b0d71382a5eb83c4b77206337051c59c4fd9141201027733ee", func := "roadbook/roadbooklaw23.IntakeParses", spec := "intakeParses", apart := false }
def IntakeParsesSaid : Prop := intakeParsesRow.holds Try.pinned (OpenSpec.ofChange intakeParsesSpec)

/-- ITS FALSE NEIGHBOUR: 'it returns false'. Refute it at one input. -/
def intakeParsesWrong : ChangeSpec := { name := "intakeParses", fn := fun _ => fun
  | [d] => { results := [.lit (.bool false)], args := [d] }
  | _ => none }
def IntakeParsesWrongFalsely : Prop := intakeParsesRow.holds Try.pinned (OpenSpec.ofChange intakeParsesWrong)

/-- 'roadbooklaw23.IntakeFolds': WHATEVER THE INPUT: true; the input reads as it did. -/
def intakeFoldsSpec : ChangeSpec := { name := "intakeFolds", fn := fun _ => fun
  | [d] => { results := [.lit (.bool true)], args := [d] }
  | _ => none }
def intakeFoldsRow : OpenClaim := { program := "ytabekdfijifnfaa", sum := "acb9bd506f2656b0d71382a5eb83c4b77206337051c59c4fd9141201027733ee", func := "roadbook/roadbooklaw23.IntakeFolds", spec := "intakeFolds", apart := false }
def IntakeFoldsSaid : Prop := intakeFoldsRow.holds Try.pinned (OpenSpec.ofChange intakeFoldsSpec)

/-- ITS FALSE NEIGHBOUR: 'it returns false'. Refute it at one input. -/
def intakeFoldsWrong : ChangeSpec := { name := "intakeFolds", fn := fun _ => fun
  | [d] => { results := [.lit (.bool false)], args := [d] }
  | _ => none }
def IntakeFoldsWrongFalsely : Prop := intakeFoldsRow.holds Try.pinned (OpenSpec.ofChange intakeFoldsWrong)

/-- 'roadbooklaw23.IntakePads': WHATEVER THE INPUT: true; the input reads as it did. -/
def intakePadsSpec : ChangeSpec := { name := "intakePads", fn := fun _ => fun
  | [d1, d2, d3] => { results := [.lit (.bool true)], args := [d1, d2, d3] }
  | _ => none }
def intakePadsRow : OpenClaim := { program := "ytabekdfijifnfaa", sum := "acb9bd506f2656b0d71382a5eb83c4b77206337051c59c4fd9141201027733ee", func := "roadbook/roadbooklaw23.IntakePads", spec := "intakePads", apart := false }
def IntakePadsSaid : Prop := intakePadsRow.holds Try.pinned (OpenSpec.ofChange intakePadsSpec)

/-- ITS FALSE NEIGHBOUR: 'it returns false'. Refute it at one input. -/
def intakePadsWrong : ChangeSpec := { name := "intakePads", fn := fun _ => fun
  | [d1, d2, d3] => { results := [.lit (.bool false)], args := [d1, d2, d3] }
  | _ => none }
def IntakePadsWrongFalsely : Prop := intakePadsRow.holds Try.pinned (OpenSpec.ofChange intakePadsWrong)

/-- 'roadbooklaw23.IntakeParts': WHATEVER THE INPUT: true; the input reads as it did. -/
def intakePartsSpec : ChangeSpec := { name := "intakeParts", fn := fun _ => fun
  | [d1, d2] => { results := [.lit (.bool true)], args := [d1, d2] }
  | _ => none }
def intakePartsRow : OpenClaim := { program := "ytabekdfijifnfaa", sum := "acb9bd506f2656b0d71382a5eb83c4b77206337051c59c4fd9141201027733ee", func := "roadbook/roadbooklaw23.IntakeParts", spec := "intakeParts", apart := false }
def IntakePartsSaid : Prop := intakePartsRow.holds Try.pinned (OpenSpec.ofChange intakePartsSpec)

/-- ITS FALSE NEIGHBOUR: 'it returns false'. Refute it at one input. -/
def intakePartsWrong : ChangeSpec := { name := "intakeParts", fn := fun _ => fun
  | [d1, d2] => { results := [.lit (.bool false)], args := [d1, d2] }
  | _ => none }
def IntakePartsWrongFalsely : Prop := intakePartsRow.holds Try.pinned (OpenSpec.ofChange intakePartsWrong)

/-- 'roadbooklaw23.IntakeOpaque': WHATEVER THE INPUT: true; the input reads as it did. -/
def intakeOpaqueSpec : ChangeSpec := { name := "intakeOpaque", fn := fun _ => fun
  | [d] => { results := [.lit (.bool true)], args := [d] }
  | _ => none }
def intakeOpaqueRow : OpenClaim := { program := "ytabekdfijifnfaa", sum := "acb9bd506f2656b0d71382a5eb83c4b77206337051c59c4fd9141201027733ee", func := "roadbook/roadbooklaw23.IntakeOpaque", spec := "intakeOpaque", apart := false }
def IntakeOpaqueSaid : Prop := intakeOpaqueRow.holds Try.pinned (OpenSpec.ofChange intakeOpaqueSpec)

/-- ITS FALSE NEIGHBOUR: 'it returns false'. Refute it at one input. -/
def intakeOpaqueWrong : ChangeSpec := { name := "intakeOpaque", fn := fun _ => fun
  | [d] => { results := [.lit (.bool false)], args := [d] }
  | _ => none }
def IntakeOpaqueWrongFalsely : Prop := intakeOpaqueRow.holds Try.pinned (OpenSpec.ofChange intakeOpaqueWrong)

/- THE SECOND FORM. 'bulk': how many values and letters a reading holds, each counted each time it is reached (what is shared counts as often as it is met; a slice's spare places count too). A statement '..UptoSaid' is the law's where the arguments, and the package variables that the reading takes, are together of bulk at most 1048576: NARROWER than '..Said'. Prove '..Said' where nothing that the law and all that it calls make is longer than what came in: it says more and counts as full. Else prove '..UptoSaid'. A law counts once. -/
mutual
def uptoBulk {H : Type} : DataW H → Nat
  | .lit (.string bytes) => bytes.length + 1
  | .lit _ => 1
  | .nil => 1
  | .ptr d => uptoBulk d + 1
  | .slice elems spare => uptoBulkAll elems + uptoBulkAll spare + 1
  | .agg parts => uptoBulkAll parts + 1
  | .iface _ d => uptoBulk d + 1
  | .map entries => uptoBulkEntries entries + 1
  | .held _ => 1
def uptoBulkAll {H : Type} : List (DataW H) → Nat
  | [] => 0
  | d :: r => uptoBulk d + uptoBulkAll r
def uptoBulkEntries {H : Type} : List (Lit × DataW H) → Nat
  | [] => 0
  | x :: r => uptoBulkEntry x + uptoBulkEntries r
def uptoBulkEntry {H : Type} : Lit × DataW H → Nat
  | (.string bytes, d) => bytes.length + uptoBulk d + 1
  | (_, d) => uptoBulk d + 1
 end
def uptoSmall : (H : Type) → List (DataW H) → Bool := fun _ ds => decide (uptoBulkAll ds ≤ 1048576)
def OpenSpec.upto (s : _root_.Go.ChangeSpec) : _root_.Go.OpenSpec := { _root_.Go.OpenSpec.ofChange s with cond := some uptoSmall }

/-- 'roadbooklaw25.OutletEncodes', WHERE WHAT IT READS IS OF BULK AT MOST 1048576: true; the input reads as it did. -/
def outletEncodesUptoRow : OpenClaim := { program := "ytabekdfijifnfaa", sum := "acb9bd506f2656b0d71382a5eb83c4b77206337051c59c4fd9141201027733ee", func := "roadbook/roadbooklaw25.OutletEncodes", spec := "outletEncodes", apart := false, narrowed := true }
def OutletEncodesUptoSaid : Prop := outletEncodesUptoRow.holds Try.pinned (OpenSpec.upto outletEncodesSpec)

/-- 'roadbooklaw25.OutletBack', WHERE WHAT IT READS IS OF BULK AT MOST 1048576: true; the input reads as it did. -/
def outletBackUptoRow : OpenClaim := { program := "ytabekdfijifnfaa", sum := "acb9bd506f2656b0d71382a5eb83c4b77206337051c59c4fd9141201027733ee", func := "roadbook/roadbooklaw25.OutletBack", spec := "outletBack", apart := false, narrowed := true }
def OutletBackUptoSaid : Prop := outletBackUptoRow.holds Try.pinned (OpenSpec.upto outletBackSpec)

/-- 'roadbooklaw25.OutletAgain', WHERE WHAT IT READS IS OF BULK AT MOST 1048576: true; the input reads as it did. -/
def outletAgainUptoRow : OpenClaim := { program := "ytabekdfijifnfaa", sum := "acb9bd506f2656b0d71382a5eb83c4b77206337051c59c4fd9141201027733ee", func := "roadbook/roadbooklaw25.OutletAgain", spec := "outletAgain", apart := false, narrowed := true }
def OutletAgainUptoSaid : Prop := outletAgainUptoRow.holds Try.pinned (OpenSpec.upto outletAgainSpec)

/-- 'roadbooklaw25.OutletFirst', WHERE WHAT IT READS IS OF BULK AT MOST 1048576: true; the input reads as it did. -/
def outletFirstUptoRow : OpenClaim := { program := "ytabekdfijifnfaa", sum := "acb9bd506f2656b0d71382a5eb83c4b77206337051c59c4fd9141201027733ee", func := "roadbook/roadbooklaw25.OutletFirst", spec := "outletFirst", apart := false, narrowed := true }
def OutletFirstUptoSaid : Prop := outletFirstUptoRow.holds Try.pinned (OpenSpec.upto outletFirstSpec)

/-- 'roadbooklaw23.IntakeParses', WHERE WHAT IT READS IS OF BULK AT MOST 1048576: true; the input reads as it did. -/
def intakeParsesUptoRow : OpenClaim := { program := "ytabekdfijifnfaa", sum := "acb9bd506f2656b0d71382a5eb83c4b77206337051c59c4fd9141201027733ee", func := "roadbook/roadbooklaw23.IntakeParses", spec := "intakeParses", apart := false, narrowed := true }
def IntakeParsesUptoSaid : Prop := intakeParsesUptoRow.holds Try.pinned (OpenSpec.upto intakeParsesSpec)

/-- 'roadbooklaw23.IntakeFolds', WHERE WHAT IT READS IS OF BULK AT MOST 1048576: true; the input reads as it did. -/
def intakeFoldsUptoRow : OpenClaim := { program := "ytabekdfijifnfaa", sum := "acb9bd506f2656b0d71382a5eb83c4b77206337051c59c4fd9141201027733ee", func := "roadbook/roadbooklaw23.IntakeFolds", spec := "intakeFolds", apart := false, narrowed := true }
def IntakeFoldsUptoSaid : Prop := intakeFoldsUptoRow.holds Try.pinned (OpenSpec.upto intakeFoldsSpec)

/-- 'roadbooklaw23.IntakePads', WHERE WHAT IT READS IS OF BULK AT MOST 1048576: true; the input reads as it did. -/
def intakePadsUptoRow : OpenClaim := { program := "ytabekdfijifnfaa", sum := "acb9bd506f2656b0d71382a5eb83c4b77206337051c59c4fd9141201027733ee", func := "roadbook/roadbooklaw23.IntakePads", spec := "intakePads", apart := false, narrowed := true }
def IntakePadsUptoSaid : Prop := intakePadsUptoRow.holds Try.pinned (OpenSpec.upto intakePadsSpec)

/-- 'roadbooklaw23.IntakeParts', WHERE WHAT IT READS IS OF BULK AT MOST 1048576: true; the input reads as it did. -/
def intakePartsUptoRow : OpenClaim := { program := "ytabekdfijifnfaa", sum := "acb9bd506f2656b0d71382a5eb83c4b77206337051c59c4fd9141201027733ee", func := "roadbook/roadbooklaw23.IntakeParts", spec := "intakeParts", apart := false, narrowed := true }
def IntakePartsUptoSaid : Prop := intakePartsUptoRow.holds Try.pinned (OpenSpec.upto intakePartsSpec)

/-- 'roadbooklaw23.IntakeOpaque', WHERE WHAT IT READS IS OF BULK AT MOST 1048576: true; the input reads as it did. -/
def intakeOpaqueUptoRow : OpenClaim := { program := "ytabekdfijifnfaa", sum := "acb9bd506f2656b0d71382a5eb83c4b77206337051c59c4fd9141201027733ee", func := "roadbook/roadbooklaw23.IntakeOpaque", spec := "intakeOpaque", apart := false, narrowed := true }
def IntakeOpaqueUptoSaid : Prop := intakeOpaqueUptoRow.holds Try.pinned (OpenSpec.upto intakeOpaqueSpec)

end Rows
end Go.Proofs.Ytabekdfijifnfaa
