/-
  No cell of these rows narrows 'for every input' (looked for: loops, veiled, ifaces, maps, wideKeys, modest, calm, conditions, laid).
  DERIVED. THE GIVEN ROWS OF THIS SEAT. 12 by the template 'for every input the law returns true; each argument reads behind the call as it read before'; 0 by the template 'total and deterministic' (their statements: YtbjjekbhopgonaaGreatTotals.lean).
  GIVEN WITH THE SEED: the statements are not yours to turn. If you find one false, say at which input.
  Laid BY PROGRAM, IN A SANDBOX (cutbox-rows.mjs): the forced cells as the released guide's own fill.sh prints them over the translation 95d20b70bcb0487c… (all of the seat's roots in one cut). By AI agents, Wed Nov 11 2026. No macro, syntax, notation, axiom, sorry.
-/
import Derived.Test.YtbjjekbhopgonaaGreatChecked
import GoSem.Claim
import GoSem.ClaimJoined
import GoSem.ClaimMapViews
import Derived.JoinedTies
import Derived.KernelRfl
namespace Go.Proofs.YtbjjekbhopgonaaGreat
/- THE CELL 'sum', in the pinned program and in every row, IS THE sha256 OF THE DUMP (.gsa) THAT YtbjjekbhopgonaaGreatProg.lean LOADS. Nothing in Lean hashes anything: it is a label: what it is worth is what the hold of that sum in a sandbox is worth. -/
noncomputable def Tryz.pinned : Pinned := { name := "ytbjjekbhopgonaagreat", sum := "95d20b70bcb0487c0eb69785ad4bc338ffc48b73ed76eeca0da0fe1924dc38c8", checked := Tryz.checked }
namespace Rows
def none {H : Type} : Left H := { results := [], args := [] }

/-- 'roadbooklaw26.SuiteTells': WHATEVER THE INPUT: true; the input reads as it did. -/
def suiteTellsSpec : ChangeSpec := { name := "suiteTells", fn := fun _ => fun
  | [d1, d2, d3] => { results := [.lit (.bool true)], args := [d1, d2, d3] }
  | _ => none }
def suiteTellsRow : OpenClaim := { program := "ytbjjekbhopgonaagreat", sum := "95d20b70bcb0487c0eb69785ad4bc338ffc48b73ed76eeca0da0fe1924dc38c8", func := "roadbook/roadbooklaw26.SuiteTells", spec := "suiteTells", unfollowed := true, recurses := true, apart := false }
def SuiteTellsSaid : Prop := suiteTellsRow.holds Tryz.pinned (OpenSpec.ofChange suiteTellsSpec)

/-- ITS FALSE NEIGHBOUR: 'it returns false'. Refute it at one input. -/
def suiteTellsWrong : ChangeSpec := { name := "suiteTells", fn := fun _ => fun
  | [d1, d2, d3] => { results := [.lit (.bool false)], args := [d1, d2, d3] }
  | _ => none }
def SuiteTellsWrongFalsely : Prop := suiteTellsRow.holds Tryz.pinned (OpenSpec.ofChange suiteTellsWrong)

/-- 'roadbooklaw28.JoinTells': WHATEVER THE INPUT: true; the input reads as it did. -/
def joinTellsSpec : ChangeSpec := { name := "joinTells", fn := fun _ => fun
  | [d1, d2] => { results := [.lit (.bool true)], args := [d1, d2] }
  | _ => none }
def joinTellsRow : OpenClaim := { program := "ytbjjekbhopgonaagreat", sum := "95d20b70bcb0487c0eb69785ad4bc338ffc48b73ed76eeca0da0fe1924dc38c8", func := "roadbook/roadbooklaw28.JoinTells", spec := "joinTells", unfollowed := true, recurses := true, apart := false }
def JoinTellsSaid : Prop := joinTellsRow.holds Tryz.pinned (OpenSpec.ofChange joinTellsSpec)

/-- ITS FALSE NEIGHBOUR: 'it returns false'. Refute it at one input. -/
def joinTellsWrong : ChangeSpec := { name := "joinTells", fn := fun _ => fun
  | [d1, d2] => { results := [.lit (.bool false)], args := [d1, d2] }
  | _ => none }
def JoinTellsWrongFalsely : Prop := joinTellsRow.holds Tryz.pinned (OpenSpec.ofChange joinTellsWrong)

/-- 'roadbooklaw28.JoinPacks': WHATEVER THE INPUT: true; the input reads as it did. -/
def joinPacksSpec : ChangeSpec := { name := "joinPacks", fn := fun _ => fun
  | [d1, d2, d3] => { results := [.lit (.bool true)], args := [d1, d2, d3] }
  | _ => none }
def joinPacksRow : OpenClaim := { program := "ytbjjekbhopgonaagreat", sum := "95d20b70bcb0487c0eb69785ad4bc338ffc48b73ed76eeca0da0fe1924dc38c8", func := "roadbook/roadbooklaw28.JoinPacks", spec := "joinPacks", unfollowed := true, recurses := true, apart := false }
def JoinPacksSaid : Prop := joinPacksRow.holds Tryz.pinned (OpenSpec.ofChange joinPacksSpec)

/-- ITS FALSE NEIGHBOUR: 'it returns false'. Refute it at one input. -/
def joinPacksWrong : ChangeSpec := { name := "joinPacks", fn := fun _ => fun
  | [d1, d2, d3] => { results := [.lit (.bool false)], args := [d1, d2, d3] }
  | _ => none }
def JoinPacksWrongFalsely : Prop := joinPacksRow.holds Tryz.pinned (OpenSpec.ofChange joinPacksWrong)

/-- 'roadbooklaw27.PackTells': WHATEVER THE INPUT: true; the input reads as it did. -/
def packTellsSpec : ChangeSpec := { name := "packTells", fn := fun _ => fun
  | [d1, d2, d3] => { results := [.lit (.bool true)], args := [d1, d2, d3] }
  | _ => none }
def packTellsRow : OpenClaim := { program := "ytbjjekbhopgonaagreat", sum := "95d20b70bcb0487c0eb69785ad4bc338ffc48b73ed76eeca0da0fe1924dc38c8", func := "roadbook/roadbooklaw27.PackTells", spec := "packTells", unfollowed := true, recurses := true, apart := false }
def PackTellsSaid : Prop := packTellsRow.holds Tryz.pinned (OpenSpec.ofChange packTellsSpec)

/-- ITS FALSE NEIGHBOUR: 'it returns false'. Refute it at one input. -/
def packTellsWrong : ChangeSpec := { name := "packTells", fn := fun _ => fun
  | [d1, d2, d3] => { results := [.lit (.bool false)], args := [d1, d2, d3] }
  | _ => none }
def PackTellsWrongFalsely : Prop := packTellsRow.holds Tryz.pinned (OpenSpec.ofChange packTellsWrong)

/-- 'roadbooklaw27.PackReads': WHATEVER THE INPUT: true; the input reads as it did. -/
def packReadsSpec : ChangeSpec := { name := "packReads", fn := fun _ => fun
  | [d1, d2, d3] => { results := [.lit (.bool true)], args := [d1, d2, d3] }
  | _ => none }
def packReadsRow : OpenClaim := { program := "ytbjjekbhopgonaagreat", sum := "95d20b70bcb0487c0eb69785ad4bc338ffc48b73ed76eeca0da0fe1924dc38c8", func := "roadbook/roadbooklaw27.PackReads", spec := "packReads", unfollowed := true, recurses := true, apart := false }
def PackReadsSaid : Prop := packReadsRow.holds Tryz.pinned (OpenSpec.ofChange packReadsSpec)

/-- ITS FALSE NEIGHBOUR: 'it returns false'. Refute it at one input. -/
def packReadsWrong : ChangeSpec := { name := "packReads", fn := fun _ => fun
  | [d1, d2, d3] => { results := [.lit (.bool false)], args := [d1, d2, d3] }
  | _ => none }
def PackReadsWrongFalsely : Prop := packReadsRow.holds Tryz.pinned (OpenSpec.ofChange packReadsWrong)

/-- 'roadbooklaw27.PackGreedy': WHATEVER THE INPUT: true; the input reads as it did. -/
def packGreedySpec : ChangeSpec := { name := "packGreedy", fn := fun _ => fun
  | [d1, d2, d3] => { results := [.lit (.bool true)], args := [d1, d2, d3] }
  | _ => none }
def packGreedyRow : OpenClaim := { program := "ytbjjekbhopgonaagreat", sum := "95d20b70bcb0487c0eb69785ad4bc338ffc48b73ed76eeca0da0fe1924dc38c8", func := "roadbook/roadbooklaw27.PackGreedy", spec := "packGreedy", unfollowed := true, recurses := true, apart := false }
def PackGreedySaid : Prop := packGreedyRow.holds Tryz.pinned (OpenSpec.ofChange packGreedySpec)

/-- ITS FALSE NEIGHBOUR: 'it returns false'. Refute it at one input. -/
def packGreedyWrong : ChangeSpec := { name := "packGreedy", fn := fun _ => fun
  | [d1, d2, d3] => { results := [.lit (.bool false)], args := [d1, d2, d3] }
  | _ => none }
def PackGreedyWrongFalsely : Prop := packGreedyRow.holds Tryz.pinned (OpenSpec.ofChange packGreedyWrong)

/-- 'roadbooklaw27.PackSmall': WHATEVER THE INPUT: true; the input reads as it did. -/
def packSmallSpec : ChangeSpec := { name := "packSmall", fn := fun _ => fun
  | [d] => { results := [.lit (.bool true)], args := [d] }
  | _ => none }
def packSmallRow : OpenClaim := { program := "ytbjjekbhopgonaagreat", sum := "95d20b70bcb0487c0eb69785ad4bc338ffc48b73ed76eeca0da0fe1924dc38c8", func := "roadbook/roadbooklaw27.PackSmall", spec := "packSmall", unfollowed := true, recurses := true, apart := false }
def PackSmallSaid : Prop := packSmallRow.holds Tryz.pinned (OpenSpec.ofChange packSmallSpec)

/-- ITS FALSE NEIGHBOUR: 'it returns false'. Refute it at one input. -/
def packSmallWrong : ChangeSpec := { name := "packSmall", fn := fun _ => fun
  | [d] => { results := [.lit (.bool false)], args := [d] }
  | _ => none }
def PackSmallWrongFalsely : Prop := packSmallRow.holds Tryz.pinned (OpenSpec.ofChange packSmallWrong)

/-- 'roadbooktop.WholeTotal': WHATEVER THE INPUT: true; the input reads as it did. -/
def wholeTotalSpec : ChangeSpec := { name := "wholeTotal", fn := fun _ => fun
  | [d1, d2] => { results := [.lit (.bool true)], args := [d1, d2] }
  | _ => none }
def wholeTotalRow : OpenClaim := { program := "ytbjjekbhopgonaagreat", sum := "95d20b70bcb0487c0eb69785ad4bc338ffc48b73ed76eeca0da0fe1924dc38c8", func := "roadbook/roadbooktop.WholeTotal", spec := "wholeTotal", unfollowed := true, recurses := true, apart := false }
def WholeTotalSaid : Prop := wholeTotalRow.holds Tryz.pinned (OpenSpec.ofChange wholeTotalSpec)

/-- ITS FALSE NEIGHBOUR: 'it returns false'. Refute it at one input. -/
def wholeTotalWrong : ChangeSpec := { name := "wholeTotal", fn := fun _ => fun
  | [d1, d2] => { results := [.lit (.bool false)], args := [d1, d2] }
  | _ => none }
def WholeTotalWrongFalsely : Prop := wholeTotalRow.holds Tryz.pinned (OpenSpec.ofChange wholeTotalWrong)

/-- 'roadbooktop.WholeShort': WHATEVER THE INPUT: true; the input reads as it did. -/
def wholeShortSpec : ChangeSpec := { name := "wholeShort", fn := fun _ => fun
  | [d] => { results := [.lit (.bool true)], args := [d] }
  | _ => none }
def wholeShortRow : OpenClaim := { program := "ytbjjekbhopgonaagreat", sum := "95d20b70bcb0487c0eb69785ad4bc338ffc48b73ed76eeca0da0fe1924dc38c8", func := "roadbook/roadbooktop.WholeShort", spec := "wholeShort", unfollowed := true, recurses := true, apart := false }
def WholeShortSaid : Prop := wholeShortRow.holds Tryz.pinned (OpenSpec.ofChange wholeShortSpec)

/-- ITS FALSE NEIGHBOUR: 'it returns false'. Refute it at one input. -/
def wholeShortWrong : ChangeSpec := { name := "wholeShort", fn := fun _ => fun
  | [d] => { results := [.lit (.bool false)], args := [d] }
  | _ => none }
def WholeShortWrongFalsely : Prop := wholeShortRow.holds Tryz.pinned (OpenSpec.ofChange wholeShortWrong)

/-- 'roadbooktop.WholeSmall': WHATEVER THE INPUT: true; the input reads as it did. -/
def wholeSmallSpec : ChangeSpec := { name := "wholeSmall", fn := fun _ => fun
  | [d1, d2, d3] => { results := [.lit (.bool true)], args := [d1, d2, d3] }
  | _ => none }
def wholeSmallRow : OpenClaim := { program := "ytbjjekbhopgonaagreat", sum := "95d20b70bcb0487c0eb69785ad4bc338ffc48b73ed76eeca0da0fe1924dc38c8", func := "roadbook/roadbooktop.WholeSmall", spec := "wholeSmall", unfollowed := true, recurses := true, apart := false }
def WholeSmallSaid : Prop := wholeSmallRow.holds Tryz.pinned (OpenSpec.ofChange wholeSmallSpec)

/-- ITS FALSE NEIGHBOUR: 'it returns false'. Refute it at one input. -/
def wholeSmallWrong : ChangeSpec := { name := "wholeSmall", fn := fun _ => fun
  | [d1, d2, d3] => { results := [.lit (.bool false)], args := [d1, d2, d3] }
  | _ => none }
def WholeSmallWrongFalsely : Prop := wholeSmallRow.holds Tryz.pinned (OpenSpec.ofChange wholeSmallWrong)

/-- 'roadbooktop.WholeAtOnce': WHATEVER THE INPUT: true; the input reads as it did. -/
def wholeAtOnceSpec : ChangeSpec := { name := "wholeAtOnce", fn := fun _ => fun
  | [d1, d2, d3] => { results := [.lit (.bool true)], args := [d1, d2, d3] }
  | _ => none }
def wholeAtOnceRow : OpenClaim := { program := "ytbjjekbhopgonaagreat", sum := "95d20b70bcb0487c0eb69785ad4bc338ffc48b73ed76eeca0da0fe1924dc38c8", func := "roadbook/roadbooktop.WholeAtOnce", spec := "wholeAtOnce", unfollowed := true, recurses := true, apart := false }
def WholeAtOnceSaid : Prop := wholeAtOnceRow.holds Tryz.pinned (OpenSpec.ofChange wholeAtOnceSpec)

/-- ITS FALSE NEIGHBOUR: 'it returns false'. Refute it at one input. -/
def wholeAtOnceWrong : ChangeSpec := { name := "wholeAtOnce", fn := fun _ => fun
  | [d1, d2, d3] => { results := [.lit (.bool false)], args := [d1, d2, d3] }
  | _ => none }
def WholeAtOnceWrongFalsely : Prop := wholeAtOnceRow.holds Tryz.pinned (OpenSpec.ofChange wholeAtOnceWrong)

/-- 'roadbooktop.WholePack': WHATEVER THE INPUT: true; the input reads as it did. -/
def wholePackSpec : ChangeSpec := { name := "wholePack", fn := fun _ => fun
  | [d1, d2, d3] => { results := [.lit (.bool true)], args := [d1, d2, d3] }
  | _ => none }
def wholePackRow : OpenClaim := { program := "ytbjjekbhopgonaagreat", sum := "95d20b70bcb0487c0eb69785ad4bc338ffc48b73ed76eeca0da0fe1924dc38c8", func := "roadbook/roadbooktop.WholePack", spec := "wholePack", unfollowed := true, recurses := true, apart := false }
def WholePackSaid : Prop := wholePackRow.holds Tryz.pinned (OpenSpec.ofChange wholePackSpec)

/-- ITS FALSE NEIGHBOUR: 'it returns false'. Refute it at one input. -/
def wholePackWrong : ChangeSpec := { name := "wholePack", fn := fun _ => fun
  | [d1, d2, d3] => { results := [.lit (.bool false)], args := [d1, d2, d3] }
  | _ => none }
def WholePackWrongFalsely : Prop := wholePackRow.holds Tryz.pinned (OpenSpec.ofChange wholePackWrong)

/- THE SECOND FORM. 'bulk': how many values and letters a reading holds, each counted each time it is reached (what is shared counts as often as it is met; a slice's spare places count too). A statement '..UptoSaid' is the law's where the arguments, and the package variables that the reading takes, are together of bulk at most 1048576: NARROWER than '..Said'. Prove '..Said' where nothing that the law and all that it calls make is longer than what came in: it says more and counts as full. Else prove '..UptoSaid'. A law counts once. -/
mutual
def uptoBulk {H : Type} : DataW H → Nat
  | .lit (.string bytes) => bytes.length + 1
  | .lit _ => 1
  | .nil => 1
  | .ptr d => uptoBulk d + 1
  | .slice elems spare => uptoBulkAll elems + uptoBulkAll spare + 1
  | .agg parts => uptoBulkAll parts + 1
  | .iface _ d => uptoBulk d + 1
  | .map entries => uptoBulkEntries entries + 1
  | .held _ => 1
def uptoBulkAll {H : Type} : List (DataW H) → Nat
  | [] => 0
  | d :: r => uptoBulk d + uptoBulkAll r
def uptoBulkEntries {H : Type} : List (Lit × DataW H) → Nat
  | [] => 0
  | x :: r => uptoBulkEntry x + uptoBulkEntries r
def uptoBulkEntry {H : Type} : Lit × DataW H → Nat
  | (.string bytes, d) => bytes.length + uptoBulk d + 1
  | (_, d) => uptoBulk d + 1
 end
def uptoSmall : (H : Type) → List (DataW H) → Bool := fun _ ds => decide (uptoBulkAll ds ≤ 1048576)
def OpenSpec.upto (s : _root_.Go.ChangeSpec) : _root_.Go.OpenSpec := { _root_.Go.OpenSpec.ofChange s with cond := some uptoSmall }

/-- 'roadbooklaw26.SuiteTells', WHERE WHAT IT READS IS OF BULK AT MOST 1048576: true; the input reads as it did. -/
def suiteTellsUptoRow : OpenClaim := { program := "ytbjjekbhopgonaagreat", sum := "95d20b70bcb0487c0eb69785ad4bc338ffc48b73ed76eeca0da0fe1924dc38c8", func := "roadbook/roadbooklaw26.SuiteTells", spec := "suiteTells", unfollowed := true, recurses := true, apart := false, narrowed := true }
def SuiteTellsUptoSaid : Prop := suiteTellsUptoRow.holds Tryz.pinned (OpenSpec.upto suiteTellsSpec)

/-- 'roadbooklaw28.JoinTells', WHERE WHAT IT READS IS OF BULK AT MOST 1048576: true; the input reads as it did. -/
def joinTellsUptoRow : OpenClaim := { program := "ytbjjekbhopgonaagreat", sum := "95d20b70bcb0487c0eb69785ad4bc338ffc48b73ed76eeca0da0fe1924dc38c8", func := "roadbook/roadbooklaw28.JoinTells", spec := "joinTells", unfollowed := true, recurses := true, apart := false, narrowed := true }
def JoinTellsUptoSaid : Prop := joinTellsUptoRow.holds Tryz.pinned (OpenSpec.upto joinTellsSpec)

/-- 'roadbooklaw28.JoinPacks', WHERE WHAT IT READS IS OF BULK AT MOST 1048576: true; the input reads as it did. -/
def joinPacksUptoRow : OpenClaim := { program := "ytbjjekbhopgonaagreat", sum := "95d20b70bcb0487c0eb69785ad4bc338ffc48b73ed76eeca0da0fe1924dc38c8", func := "roadbook/roadbooklaw28.JoinPacks", spec := "joinPacks", unfollowed := true, recurses := true, apart := false, narrowed := true }
def JoinPacksUptoSaid : Prop := joinPacksUptoRow.holds Tryz.pinned (OpenSpec.upto joinPacksSpec)

/-- 'roadbooklaw27.PackTells', WHERE WHAT IT READS IS OF BULK AT MOST 1048576: true; the input reads as it did. -/
def packTellsUptoRow : OpenClaim := { program := "ytbjjekbhopgonaagreat", sum := "95d20b70bcb0487c0eb69785ad4bc338ffc48b73ed76eeca0da0fe1924dc38c8", func := "roadbook/roadbooklaw27.PackTells", spec := "packTells", unfollowed := true, recurses := true, apart := false, narrowed := true }
def PackTellsUptoSaid : Prop := packTellsUptoRow.holds Tryz.pinned (OpenSpec.upto packTellsSpec)

/-- 'roadbooklaw27.PackReads', WHERE WHAT IT READS IS OF BULK AT MOST 1048576: true; the input reads as it did. -/
def packReadsUptoRow : OpenClaim := { program := "ytbjjekbhopgonaagreat", sum := "95d20b70bcb0487c0eb69785ad4bc338ffc48b73ed76eeca0da0fe1924dc38c8", func := "roadbook/roadbooklaw27.PackReads", spec := "packReads", unfollowed := true, recurses := true, apart := false, narrowed := true }
def PackReadsUptoSaid : Prop := packReadsUptoRow.holds Tryz.pinned (OpenSpec.upto packReadsSpec)

/-- 'roadbooklaw27.PackGreedy', WHERE WHAT IT READS IS OF BULK AT MOST 1048576: true; the input reads as it did. -/
def packGreedyUptoRow : OpenClaim := { program := "ytbjjekbhopgonaagreat", sum := "95d20b70bcb0487c0eb69785ad4bc338ffc48b73ed76eeca0da0fe1924dc38c8", func := "roadbook/roadbooklaw27.PackGreedy", spec := "packGreedy", unfollowed := true, recurses := true, apart := false, narrowed := true }
def PackGreedyUptoSaid : Prop := packGreedyUptoRow.holds Tryz.pinned (OpenSpec.upto packGreedySpec)

/-- 'roadbooklaw27.PackSmall', WHERE WHAT IT READS IS OF BULK AT MOST 1048576: true; the input reads as it did. -/
def packSmallUptoRow : OpenClaim := { program := "ytbjjekbhopgonaagreat", sum := "95d20b70bcb0487c0eb69785ad4bc338ffc48b73ed76eeca0da0fe1924dc38c8", func := "roadbook/roadbooklaw27.PackSmall", spec := "packSmall", unfollowed := true, recurses := true, apart := false, narrowed := true }
def PackSmallUptoSaid : Prop := packSmallUptoRow.holds Tryz.pinned (OpenSpec.upto packSmallSpec)

/-- 'roadbooktop.WholeTotal', WHERE WHAT IT READS IS OF BULK AT MOST 1048576: true; the input reads as it did. -/
def wholeTotalUptoRow : OpenClaim := { program := "ytbjjekbhopgonaagreat", sum := "95d20b70bcb0487c0eb69785ad4bc338ffc48b73ed76eeca0da0fe1924dc38c8", func := "roadbook/roadbooktop.WholeTotal", spec := "wholeTotal", unfollowed := true, recurses := true, apart := false, narrowed := true }
def WholeTotalUptoSaid : Prop := wholeTotalUptoRow.holds Tryz.pinned (OpenSpec.upto wholeTotalSpec)

/-- 'roadbooktop.WholeShort', WHERE WHAT IT READS IS OF BULK AT MOST 1048576: true; the input reads as it did. -/
def wholeShortUptoRow : OpenClaim := { program := "ytbjjekbhopgonaagreat", sum := "95d20b70bcb0487c0eb69785ad4bc338ffc48b73ed76eeca0da0fe1924dc38c8", func := "roadbook/roadbooktop.WholeShort", spec := "wholeShort", unfollowed := true, recurses := true, apart := false, narrowed := true }
def WholeShortUptoSaid : Prop := wholeShortUptoRow.holds Tryz.pinned (OpenSpec.upto wholeShortSpec)

/-- 'roadbooktop.WholeSmall', WHERE WHAT IT READS IS OF BULK AT MOST 1048576: true; the input reads as it did. -/
def wholeSmallUptoRow : OpenClaim := { program := "ytbjjekbhopgonaagreat", sum := "95d20b70bcb0487c0eb69785ad4bc338ffc48b73ed76eeca0da0fe1924dc38c8", func := "roadbook/roadbooktop.WholeSmall", spec := "wholeSmall", unfollowed := true, recurses := true, apart := false, narrowed := true }
def WholeSmallUptoSaid : Prop := wholeSmallUptoRow.holds Tryz.pinned (OpenSpec.upto wholeSmallSpec)

/-- 'roadbooktop.WholeAtOnce', WHERE WHAT IT READS IS OF BULK AT MOST 1048576: true; the input reads as it did. -/
def wholeAtOnceUptoRow : OpenClaim := { program := "ytbjjekbhopgonaagreat", sum := "95d20b70bcb0487c0eb69785ad4bc338ffc48b73ed76eeca0da0fe1924dc38c8", func := "roadbook/roadbooktop.WholeAtOnce", spec := "wholeAtOnce", unfollowed := true, recurses := true, apart := false, narrowed := true }
def WholeAtOnceUptoSaid : Prop := wholeAtOnceUptoRow.holds Tryz.pinned (OpenSpec.upto wholeAtOnceSpec)

/-- 'roadbooktop.WholePack', WHERE WHAT IT READS IS OF BULK AT MOST 1048576: true; the input reads as it did. -/
def wholePackUptoRow : OpenClaim := { program := "ytbjjekbhopgonaagreat", sum := "95d20b70bcb0487c0eb69785ad4bc338ffc48b73ed76eeca0da0fe1924dc38c8", func := "roadbook/roadbooktop.WholePack", spec := "wholePack", unfollowed := true, recurses := true, apart := false, narrowed := true }
def WholePackUptoSaid : Prop := wholePackUptoRow.holds Tryz.pinned (OpenSpec.upto wholePackSpec)

end Rows
end Go.Proofs.YtbjjekbhopgonaaGreat
