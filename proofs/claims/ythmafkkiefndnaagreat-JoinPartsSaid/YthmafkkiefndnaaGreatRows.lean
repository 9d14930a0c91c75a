/-
  No cell of these rows narrows 'for every input' (looked for: loops, veiled, ifaces, maps, wideKeys, modest, calm, conditions, laid).
  DERIVED. THE GIVEN ROWS OF THIS SEAT. 11 by the template 'for every input the law returns true; each argument reads behind the call as it read before'; 0 by the template 'total and deterministic' (their statements: YthmafkkiefndnaaGreatTotals.lean).
  GIVEN WITH THE SEED: the statements are not yours to turn. If you find one false, say at which input.
  Laid BY PROGRAM, IN A SANDBOX (cutbox-rows.mjs): the forced cells as the released guide's own fill.sh prints them over the translation 56d609ca8ad597f5… (all of the seat's roots in one cut). By AI agents, Wed Nov 11 2026. No macro, syntax, notation, axiom, sorry.
-/
import Derived.Test.YthmafkkiefndnaaGreatChecked
import GoSem.Claim
import GoSem.ClaimJoined
import GoSem.ClaimMapViews
import Derived.JoinedTies
import Derived.KernelRfl
namespace Go.Proofs.YthmafkkiefndnaaGreat
/- THE CELL 'sum', in the pinned program and in every row, IS THE sha256 OF THE DUMP (.gsa) THAT YthmafkkiefndnaaGreatProg.lean LOADS. Nothing in Lean hashes anything: it is a label: what it is worth is what the hold of that sum in a sandbox is worth. -/
noncomputable def Tryz.pinned : Pinned := { name := "ythmafkkiefndnaagreat", sum := "56d609ca8ad597f579b8f7a4c6b484a9bcf7810a9b04329716f9f81be83d933e", checked := Tryz.checked }
namespace Rows
def none {H : Type} : Left H := { results := [], args := [] }

/-- 'roadbooklaw26.SuiteTells': WHATEVER THE INPUT: true; the input reads as it did. -/
def suiteTellsSpec : ChangeSpec := { name := "suiteTells", fn := fun _ => fun
  | [d1, d2, d3] => { results := [.lit (.bool true)], args := [d1, d2, d3] }
  | _ => none }
def suiteTellsRow : OpenClaim := { program := "ythmafkkiefndnaagreat", sum := "56d609ca8ad597f579b8f7a4c6b484a9bcf7810a9b04329716f9f81be83d933e", func := "roadbook/roadbooklaw26.SuiteTells", spec := "suiteTells", unfollowed := true, recurses := true, apart := false }
def SuiteTellsSaid : Prop := suiteTellsRow.holds Tryz.pinned (OpenSpec.ofChange suiteTellsSpec)

/-- ITS FALSE NEIGHBOUR: 'it returns false'. Refute it at one input. -/
def suiteTellsWrong : ChangeSpec := { name := "suiteTells", fn := fun _ => fun
  | [d1, d2, d3] => { results := [.lit (.bool false)], args := [d1, d2, d3] }
  | _ => none }
def SuiteTellsWrongFalsely : Prop := suiteTellsRow.holds Tryz.pinned (OpenSpec.ofChange suiteTellsWrong)

/-- 'roadbooklaw26.SuiteBack': WHATEVER THE INPUT: true; the input reads as it did. -/
def suiteBackSpec : ChangeSpec := { name := "suiteBack", fn := fun _ => fun
  | [d1, d2] => { results := [.lit (.bool true)], args := [d1, d2] }
  | _ => none }
def suiteBackRow : OpenClaim := { program := "ythmafkkiefndnaagreat", sum := "56d609ca8ad597f579b8f7a4c6b484a9bcf7810a9b04329716f9f81be83d933e", func := "roadbook/roadbooklaw26.SuiteBack", spec := "suiteBack", unfollowed := true, recurses := true, apart := false }
def SuiteBackSaid : Prop := suiteBackRow.holds Tryz.pinned (OpenSpec.ofChange suiteBackSpec)

/-- ITS FALSE NEIGHBOUR: 'it returns false'. Refute it at one input. -/
def suiteBackWrong : ChangeSpec := { name := "suiteBack", fn := fun _ => fun
  | [d1, d2] => { results := [.lit (.bool false)], args := [d1, d2] }
  | _ => none }
def SuiteBackWrongFalsely : Prop := suiteBackRow.holds Tryz.pinned (OpenSpec.ofChange suiteBackWrong)

/-- 'roadbooklaw26.SuiteAgain': WHATEVER THE INPUT: true; the input reads as it did. -/
def suiteAgainSpec : ChangeSpec := { name := "suiteAgain", fn := fun _ => fun
  | [d1, d2] => { results := [.lit (.bool true)], args := [d1, d2] }
  | _ => none }
def suiteAgainRow : OpenClaim := { program := "ythmafkkiefndnaagreat", sum := "56d609ca8ad597f579b8f7a4c6b484a9bcf7810a9b04329716f9f81be83d933e", func := "roadbook/roadbooklaw26.SuiteAgain", spec := "suiteAgain", unfollowed := true, recurses := true, apart := false }
def SuiteAgainSaid : Prop := suiteAgainRow.holds Tryz.pinned (OpenSpec.ofChange suiteAgainSpec)

/-- ITS FALSE NEIGHBOUR: 'it returns false'. Refute it at one input. -/
def suiteAgainWrong : ChangeSpec := { name := "suiteAgain", fn := fun _ => fun
  | [d1, d2] => { results := [.lit (.bool false)], args := [d1, d2] }
  | _ => none }
def SuiteAgainWrongFalsely : Prop := suiteAgainRow.holds Tryz.pinned (OpenSpec.ofChange suiteAgainWrong)

/-- 'roadbooklaw26.SuiteOne': WHATEVER THE INPUT: true; the input reads as it did. -/
def suiteOneSpec : ChangeSpec := { name := "suiteOne", fn := fun _ => fun
  | [d] => { results := [.lit (.bool true)], args := [d] }
  | _ => none }
def suiteOneRow : OpenClaim := { program := "ythmafkkiefndnaagreat", sum := "56d609ca8ad597f579b8f7a4c6b484a9bcf7810a9b04329716f9f81be83d933e", func := "roadbook/roadbooklaw26.SuiteOne", spec := "suiteOne", unfollowed := true, recurses := true, apart := false }
def SuiteOneSaid : Prop := suiteOneRow.holds Tryz.pinned (OpenSpec.ofChange suiteOneSpec)

/-- ITS FALSE NEIGHBOUR: 'it returns false'. Refute it at one input. -/
def suiteOneWrong : ChangeSpec := { name := "suiteOne", fn := fun _ => fun
  | [d] => { results := [.lit (.bool false)], args := [d] }
  | _ => none }
def SuiteOneWrongFalsely : Prop := suiteOneRow.holds Tryz.pinned (OpenSpec.ofChange suiteOneWrong)

/-- 'roadbooklaw28.JoinTells': WHATEVER THE INPUT: true; the input reads as it did. -/
def joinTellsSpec : ChangeSpec := { name := "joinTells", fn := fun _ => fun
  | [d1, d2] => { results := [.lit (.bool true)], args := [d1, d2] }
  | _ => none }
def joinTellsRow : OpenClaim := { program := "ythmafkkiefndnaagreat", sum := "56d609ca8ad597f579b8f7a4c6b484a9bcf7810a9b04329716f9f81be83d933e", func := "roadbook/roadbooklaw28.JoinTells", spec := "joinTells", unfollowed := true, recurses := true, apart := false }
def JoinTellsSaid : Prop := joinTellsRow.holds Tryz.pinned (OpenSpec.ofChange joinTellsSpec)

/-- ITS FALSE NEIGHBOUR: 'it returns false'. Refute it at one input. -/
def joinTellsWrong : ChangeSpec := { name := "joinTells", fn := fun _ => fun
  | [d1, d2] => { results := [.lit (.bool false)], args := [d1, d2] }
  | _ => none }
def JoinTellsWrongFalsely : Prop := joinTellsRow.holds Tryz.pinned (OpenSpec.ofChange joinTellsWrong)

/-- 'roadbooklaw28.JoinPacks': WHATEVER THE INPUT: true; the input reads as it did. -/
def joinPacksSpec : ChangeSpec := { name := "joinPacks", fn := fun _ => fun
  | [d1, d2, d3] => { results := [.lit (.bool true)], args := [d1, d2, d3] }
  | _ => none }
def joinPacksRow : OpenClaim := { program := "ythmafkkiefndnaagreat", sum := "56d609ca8ad597f579b8f7a4c6b484a9bcf7810a9b04329716f9f81be83d933e", func := "roadbook/roadbooklaw28.JoinPacks", spec := "joinPacks", unfollowed := true, recurses := true, apart := false }
def JoinPacksSaid : Prop := joinPacksRow.holds Tryz.pinned (OpenSpec.ofChange joinPacksSpec)

/-- ITS FALSE NEIGHBOUR: 'it returns false'. Refute it at one input. -/
def joinPacksWrong : ChangeSpec := { name := "joinPacks", fn := fun _ => fun
  | [d1, d2, d3] => { results := [.lit (.bool false)], args := [d1, d2, d3] }
  | _ => none }
def JoinPacksWrongFalsely : Prop := joinPacksRow.holds Tryz.pinned (OpenSpec.ofChange joinPacksWrong)

/-- 'roadbooklaw28.JoinParts': WHATEVER THE INPUT: true; the input reads as it did. -/
def joinPartsSpec : ChangeSpec := { name := "joinParts", fn := fun _ => fun
  | [d1, d2, d3] => { results := [.lit (.bool true)], args := [d1, d2, d3] }
  | _ => none }
def joinPartsRow : OpenClaim := { program := "ythmafkkiefndnaagreat", sum := "56d609ca8ad597f579b8f7a4c6b484a9bcf7810a9b04329716f9f81be83d933e", func := "roadbook/roadbooklaw28.JoinParts", spec := "joinParts", unfollowed := true, recurses := true, apart := false }
def JoinPartsSaid : Prop := joinPartsRow.holds Tryz.pinned (OpenSpec.ofChange joinPartsSpec)

/-- ITS FALSE NEIGHBOUR: 'it returns false'. Refute it at one input. -/
def joinPartsWrong : ChangeSpec := { name := "joinParts", fn := fun _ => fun
  | [d1, d2, d3] => { results := [.lit (.bool false)], args := [d1, d2, d3] }
  | _ => none }
def JoinPartsWrongFalsely : Prop := joinPartsRow.holds Tryz.pinned (OpenSpec.ofChange joinPartsWrong)

/-- 'roadbooklaw27.PackTells': WHATEVER THE INPUT: true; the input reads as it did. -/
def packTellsSpec : ChangeSpec := { name := "packTells", fn := fun _ => fun
  | [d1, d2, d3] => { results := [.lit (.bool true)], args := [d1, d2, d3] }
  | _ => none }
def packTellsRow : OpenClaim := { program := "ythmafkkiefndnaagreat", sum := "56d609ca8ad597f579b8f7a4c6b484a9bcf7810a9b04329716f9f81be83d933e", func := "roadbook/roadbooklaw27.PackTells", spec := "packTells", unfollowed := true, recurses := true, apart := false }
def PackTellsSaid : Prop := packTellsRow.holds Tryz.pinned (OpenSpec.ofChange packTellsSpec)

/-- ITS FALSE NEIGHBOUR: 'it returns false'. Refute it at one input. -/
def packTellsWrong : ChangeSpec := { name := "packTells", fn := fun _ => fun
  | [d1, d2, d3] => { results := [.lit (.bool false)], args := [d1, d2, d3] }
  | _ => none }
def PackTellsWrongFalsely : Prop := packTellsRow.holds Tryz.pinned (OpenSpec.ofChange packTellsWrong)

/-- 'roadbooklaw27.PackReads': WHATEVER THE INPUT: true; the input reads as it did. -/
def packReadsSpec : ChangeSpec := { name := "packReads", fn := fun _ => fun
  | [d1, d2, d3] => { results := [.lit (.bool true)], args := [d1, d2, d3] }
  | _ => none }
def packReadsRow : OpenClaim := { program := "ythmafkkiefndnaagreat", sum := "56d609ca8ad597f579b8f7a4c6b484a9bcf7810a9b04329716f9f81be83d933e", func := "roadbook/roadbooklaw27.PackReads", spec := "packReads", unfollowed := true, recurses := true, apart := false }
def PackReadsSaid : Prop := packReadsRow.holds Tryz.pinned (OpenSpec.ofChange packReadsSpec)

/-- ITS FALSE NEIGHBOUR: 'it returns false'. Refute it at one input. -/
def packReadsWrong : ChangeSpec := { name := "packReads", fn := fun _ => fun
  | [d1, d2, d3] => { results := [.lit (.bool false)], args := [d1, d2, d3] }
  | _ => none }
def PackReadsWrongFalsely : Prop := packReadsRow.holds Tryz.pinned (OpenSpec.ofChange packReadsWrong)

/-- 'roadbooklaw27.PackGreedy': WHATEVER THE INPUT: true; the input reads as it did. -/
def packGreedySpec : ChangeSpec := { name := "packGreedy", fn := fun _ => fun
  | [d1, d2, d3] => { results := [.lit (.bool true)], args := [d1, d2, d3] }
  | _ => none }
def packGreedyRow : OpenClaim := { program := "ythmafkkiefndnaagreat", sum := "56d609ca8ad597f579b8f7a4c6b484a9bcf7810a9b04329716f9f81be83d933e", func := "roadbook/roadbooklaw27.PackGreedy", spec := "packGreedy", unfollowed := true, recurses := true, apart := false }
def PackGreedySaid : Prop := packGreedyRow.holds Tryz.pinned (OpenSpec.ofChange packGreedySpec)

/-- ITS FALSE NEIGHBOUR: 'it returns false'. Refute it at one input. -/
def packGreedyWrong : ChangeSpec := { name := "packGreedy", fn := fun _ => fun
  | [d1, d2, d3] => { results := [.lit (.bool false)], args := [d1, d2, d3] }
  | _ => none }
def PackGreedyWrongFalsely : Prop := packGreedyRow.holds Tryz.pinned (OpenSpec.ofChange packGreedyWrong)

/-- 'roadbooklaw27.PackSmall': WHATEVER THE INPUT: true; the input reads as it did. -/
def packSmallSpec : ChangeSpec := { name := "packSmall", fn := fun _ => fun
  | [d] => { results := [.lit (.bool true)], args := [d] }
  | _ => none }
def packSmallRow : OpenClaim := { program := "ythmafkkiefndnaagreat", sum := "56d609ca8ad597f579b8f7a4c6b484a9bcf7810a9b04329716f9f81be83d933e", func := "roadbook/roadbooklaw27.PackSmall", spec := "packSmall", unfollowed := true, recurses := true, apart := false }
def PackSmallSaid : Prop := packSmallRow.holds Tryz.pinned (OpenSpec.ofChange packSmallSpec)

/-- ITS FALSE NEIGHBOUR: 'it returns false'. Refute it at one input. -/
def packSmallWrong : ChangeSpec := { name := "packSmall", fn := fun _ => fun
  | [d] => { results := [.lit (.bool false)], args := [d] }
  | _ => none }
def PackSmallWrongFalsely : Prop := packSmallRow.holds Tryz.pinned (OpenSpec.ofChange packSmallWrong)

/- THE SECOND FORM. 'bulk': how many values and letters a reading holds, each counted each time it is reached (what is shared counts as often as it is met; a slice's spare places count too). A statement '..UptoSaid' is the law's where the arguments, and the package variables that the reading takes, are together of bulk at most 1048576: NARROWER than '..Said'. Prove '..Said' where nothing that the law and all that it calls make is longer than what came in: it says more and counts as full. Else prove '..UptoSaid'. A law counts once. -/
mutual
def uptoBulk {H : Type} : DataW H → Nat
  | .lit (.string bytes) => bytes.length + 1
  | .lit _ => 1
  | .nil => 1
  | .ptr d => uptoBulk d + 1
  | .slice elems spare => uptoBulkAll elems + uptoBulkAll spare + 1
  | .agg parts => uptoBulkAll parts + 1
  | .iface _ d => uptoBulk d + 1
  | .map entries => uptoBulkEntries entries + 1
  | .held _ => 1
def uptoBulkAll {H : Type} : List (DataW H) → Nat
  | [] => 0
  | d :: r => uptoBulk d + uptoBulkAll r
def uptoBulkEntries {H : Type} : List (Lit × DataW H) → Nat
  | [] => 0
  | x :: r => uptoBulkEntry x + uptoBulkEntries r
def uptoBulkEntry {H : Type} : Lit × DataW H → Nat
  | (.string bytes, d) => bytes.length + uptoBulk d + 1
  | (_, d) => uptoBulk d + 1
 end
def uptoSmall : (H : Type) → List (DataW H) → Bool := fun _ ds => decide (uptoBulkAll ds ≤ 1048576)
def OpenSpec.upto (s : _root_.Go.ChangeSpec) : _root_.Go.OpenSpec := { _root_.Go.OpenSpec.ofChange s with cond := some uptoSmall }

/-- 'roadbooklaw26.SuiteTells', WHERE WHAT IT READS IS OF BULK AT MOST 1048576: true; the input reads as it did. -/
def suiteTellsUptoRow : OpenClaim := { program := "ythmafkkiefndnaagreat", sum := "56d609ca8ad597f579b8f7a4c6b484a9bcf7810a9b04329716f9f81be83d933e", func := "roadbook/roadbooklaw26.SuiteTells", spec := "suiteTells", unfollowed := true, recurses := true, apart := false, narrowed := true }
def SuiteTellsUptoSaid : Prop := suiteTellsUptoRow.holds Tryz.pinned (OpenSpec.upto suiteTellsSpec)

/-- 'roadbooklaw26.SuiteBack', WHERE WHAT IT READS IS OF BULK AT MOST 1048576: true; the input reads as it did. -/
def suiteBackUptoRow : OpenClaim := { program := "ythmafkkiefndnaagreat", sum := "56d609ca8ad597f579b8f7a4c6b484a9bcf7810a9b04329716f9f81be83d933e", func := "roadbook/roadbooklaw26.SuiteBack", spec := "suiteBack", unfollowed := true, recurses := true, apart := false, narrowed := true }
def SuiteBackUptoSaid : Prop := suiteBackUptoRow.holds Tryz.pinned (OpenSpec.upto suiteBackSpec)

/-- 'roadbooklaw26.SuiteAgain', WHERE WHAT IT READS IS OF BULK AT MOST 1048576: true; the input reads as it did. -/
def suiteAgainUptoRow : OpenClaim := { program := "ythmafkkiefndnaagreat", sum := "56d609ca8ad597f579b8f7a4c6b484a9bcf7810a9b04329716f9f81be83d933e", func := "roadbook/roadbooklaw26.SuiteAgain", spec := "suiteAgain", unfollowed := true, recurses := true, apart := false, narrowed := true }
def SuiteAgainUptoSaid : Prop := suiteAgainUptoRow.holds Tryz.pinned (OpenSpec.upto suiteAgainSpec)

/-- 'roadbooklaw26.SuiteOne', WHERE WHAT IT READS IS OF BULK AT MOST 1048576: true; the input reads as it did. -/
def suiteOneUptoRow : OpenClaim := { program := "ythmafkkiefndnaagreat", sum := "56d609ca8ad597f579b8f7a4c6b484a9bcf7810a9b04329716f9f81be83d933e", func := "roadbook/roadbooklaw26.SuiteOne", spec := "suiteOne", unfollowed := true, recurses := true, apart := false, narrowed := true }
def SuiteOneUptoSaid : Prop := suiteOneUptoRow.holds Tryz.pinned (OpenSpec.upto suiteOneSpec)

/-- 'roadbooklaw28.JoinTells', WHERE WHAT IT READS IS OF BULK AT MOST 1048576: true; the input reads as it did. -/
def joinTellsUptoRow : OpenClaim := { program := "ythmafkkiefndnaagreat", sum := "56d609ca8ad597f579b8f7a4c6b484a9bcf7810a9b04329716f9f81be83d933e", func := "roadbook/roadbooklaw28.JoinTells", spec := "joinTells", unfollowed := true, recurses := true, apart := false, narrowed := true }
def JoinTellsUptoSaid : Prop := joinTellsUptoRow.holds Tryz.pinned (OpenSpec.upto joinTellsSpec)

/-- 'roadbooklaw28.JoinPacks', WHERE WHAT IT READS IS OF BULK AT MOST 1048576: true; the input reads as it did. -/
def joinPacksUptoRow : OpenClaim := { program := "ythmafkkiefndnaagreat", sum := "56d609ca8ad597f579b8f7a4c6b484a9bcf7810a9b04329716f9f81be83d933e", func := "roadbook/roadbooklaw28.JoinPacks", spec := "joinPacks", unfollowed := true, recurses := true, apart := false, narrowed := true }
def JoinPacksUptoSaid : Prop := joinPacksUptoRow.holds Tryz.pinned (OpenSpec.upto joinPacksSpec)

/-- 'roadbooklaw28.JoinParts', WHERE WHAT IT READS IS OF BULK AT MOST 1048576: true; the input reads as it did. -/
def joinPartsUptoRow : OpenClaim := { program := "ythmafkkiefndnaagreat", sum := "56d609ca8ad597f579b8f7a4c6b484a9bcf7810a9b04329716f9f81be83d933e", func := "roadbook/roadbooklaw28.JoinParts", spec := "joinParts", unfollowed := true, recurses := true, apart := false, narrowed := true }
def JoinPartsUptoSaid : Prop := joinPartsUptoRow.holds Tryz.pinned (OpenSpec.upto joinPartsSpec)

/-- 'roadbooklaw27.PackTells', WHERE WHAT IT READS IS OF BULK AT MOST 1048576: true; the input reads as it did. -/
def packTellsUptoRow : OpenClaim := { program := "ythmafkkiefndnaagreat", sum := "56d609ca8ad597f579b8f7a4c6b484a9bcf7810a9b04329716f9f81be83d933e", func := "roadbook/roadbooklaw27.PackTells", spec := "packTells", unfollowed := true, recurses := true, apart := false, narrowed := true }
def PackTellsUptoSaid : Prop := packTellsUptoRow.holds Tryz.pinned (OpenSpec.upto packTellsSpec)

/-- 'roadbooklaw27.PackReads', WHERE WHAT IT READS IS OF BULK AT MOST 1048576: true; the input reads as it did. -/
def packReadsUptoRow : OpenClaim := { program := "ythmafkkiefndnaagreat", sum := "56d609ca8ad597f579b8f7a4c6b484a9bcf7810a9b04329716f9f81be83d933e", func := "roadbook/roadbooklaw27.PackReads", spec := "packReads", unfollowed := true, recurses := true, apart := false, narrowed := true }
def PackReadsUptoSaid : Prop := packReadsUptoRow.holds Tryz.pinned (OpenSpec.upto packReadsSpec)

/-- 'roadbooklaw27.PackGreedy', WHERE WHAT IT READS IS OF BULK AT MOST 1048576: true; the input reads as it did. -/
def packGreedyUptoRow : OpenClaim := { program := "ythmafkkiefndnaagreat", sum := "56d609ca8ad597f579b8f7a4c6b484a9bcf7810a9b04329716f9f81be83d933e", func := "roadbook/roadbooklaw27.PackGreedy", spec := "packGreedy", unfollowed := true, recurses := true, apart := false, narrowed := true }
def PackGreedyUptoSaid : Prop := packGreedyUptoRow.holds Tryz.pinned (OpenSpec.upto packGreedySpec)

/-- 'roadbooklaw27.PackSmall', WHERE WHAT IT READS IS OF BULK AT MOST 1048576: true; the input reads as it did. -/
def packSmallUptoRow : OpenClaim := { program := "ythmafkkiefndnaagreat", sum := "56d609ca8ad597f579b8f7a4c6b484a9bcf7810a9b04329716f9f81be83d933e", func := "roadbook/roadbooklaw27.PackSmall", spec := "packSmall", unfollowed := true, recurses := true, apart := false, narrowed := true }
def PackSmallUptoSaid : Prop := packSmallUptoRow.holds Tryz.pinned (OpenSpec.upto packSmallSpec)

end Rows
end Go.Proofs.YthmafkkiefndnaaGreat
