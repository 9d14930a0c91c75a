/-
  No cell of these rows narrows 'for every input' (looked for: loops, veiled, ifaces, maps, wideKeys, modest, calm, conditions, laid).
  DERIVED. THE GIVEN ROWS OF THIS SEAT. 9 by the template 'for every input the law returns true; each argument reads behind the call as it read before'; 0 by the template 'total and deterministic' (their statements: YtpapfbpefhcobaaTotals.lean).
  GIVEN WITH THE SEED: the statements are not yours to turn. If you find one false, say at which input.
  Laid BY PROGRAM, IN A SANDBOX (cutbox-rows.mjs): the forced cells as the released guide's own fill.sh prints them over the translation c04450c7506a0bd8… (all of the seat's roots in one cut). By AI agents, Wed Nov 11 2026. No macro, syntax, notation, axiom, sorry.
-/
import Derived.Test.YtpapfbpefhcobaaChecked
import GoSem.Claim
import GoSem.ClaimJoined
import GoSem.ClaimMapViews
import Derived.JoinedTies
import Derived.KernelRfl
namespace Go.Proofs.Ytpapfbpefhcobaa
/- THE CELL 'sum', in the pinned program and in every row, IS THE sha256 OF THE DUMP (.gsa) THAT YtpapfbpefhcobaaProg.lean LOADS. Nothing in Lean hashes anything: it is a label: what it is worth is what the hold of that sum in a sandbox is worth. -/
noncomputable def Try.pinned : Pinned := { name := "ytpapfbpefhcobaa", sum := "c04450c7506a0bd88e24933010f986ba083964647789b99b73c89ad91e2eacc4", checked := Try.checked }
namespace Rows
def none {H : Type} : Left H := { results := [], args := [] }

/-- 'roadbooklaw20.FieldTells': WHATEVER THE INPUT: true; the input reads as it did. -/
def fieldTellsSpec : ChangeSpec := { name := "fieldTells", fn := fun _ => fun
  | [d] => { results := [.lit (.bool true)], args := [d] }
  | _ => none }
def fieldTellsRow : OpenClaim := { program := "ytpapfbpefhcobaa", sum := "c04450c7506a0bd88e24933010f986ba083964647789b99b73c89ad91e2eacc4", func := "roadbook/roadbooklaw20.FieldTells", spec := "fieldTells", apart := false }
def FieldTellsSaid : Prop := fieldTellsRow.holds Try.pinned (OpenSpec.ofChange fieldTellsSpec)

/-- ITS FALSE NEIGHBOUR: 'it returns false'. Refute it at one input. -/
def fieldTellsWrong : ChangeSpec := { name := "fieldTells", fn := fun _ => fun
  | [d] => { results := [.lit (.bool false)], args := [d] }
  | _ => none }
def FieldTellsWrongFalsely : Prop := fieldTellsRow.holds Try.pinned (OpenSpec.ofChange fieldTellsWrong)

/-- 'roadbooklaw20.FieldGets': WHATEVER THE INPUT: true; the input reads as it did. -/
def fieldGetsSpec : ChangeSpec := { name := "fieldGets", fn := fun _ => fun
  | [d] => { results := [.lit (.bool true)], args := [d] }
  | _ => none }
def fieldGetsRow : OpenClaim := { program := "ytpapfbpefhcobaa", sum := "c04450c7506a0bd88e24933010f986ba083964647789b99b73c89ad91e2eacc4", func := "roadbook/roadbooklaw20.FieldGets", spec := "fieldGets", apart := false }
def FieldGetsSaid : Prop := fieldGetsRow.holds Try.pinned (OpenSpec.ofChange fieldGetsSpec)

/-- ITS FALSE NEIGHBOUR: 'it returns false'. Refute it at one input. -/
def fieldGetsWrong : ChangeSpec := { name := "fieldGets", fn := fun _ => fun
  | [d] => { results := [.lit (.bool false)], args := [d] }
  | _ => none }
def FieldGetsWrongFalsely : Prop := fieldGetsRow.holds Try.pinned (OpenSpec.ofChange fieldGetsWrong)

/-- 'roadbooklaw20.FieldBack': WHATEVER THE INPUT: true; the input reads as it did. -/
def fieldBackSpec : ChangeSpec := { name := "fieldBack", fn := fun _ => fun
  | [d1, d2] => { results := [.lit (.bool true)], args := [d1, d2] }
  | _ => none }
def fieldBackRow : OpenClaim := { program := "ytpapfbpefhcobaa", sum := "c04450c7506a0bd88e24933010f986ba083964647789b99b73c89ad91e2eacc4", func := "roadbook/roadbooklaw20.FieldBack", spec := "fieldBack", apart := false }
def FieldBackSaid : Prop := fieldBackRow.holds Try.pinned (OpenSpec.ofChange fieldBackSpec)

/-- ITS FALSE NEIGHBOUR: 'it returns false'. Refute it at one input. -/
def fieldBackWrong : ChangeSpec := { name := "fieldBack", fn := fun _ => fun
  | [d1, d2] => { results := [.lit (.bool false)], args := [d1, d2] }
  | _ => none }
def FieldBackWrongFalsely : Prop := fieldBackRow.holds Try.pinned (OpenSpec.ofChange fieldBackWrong)

/-- 'roadbooklaw20.FieldNoise': WHATEVER THE INPUT: true; the input reads as it did. -/
def fieldNoiseSpec : ChangeSpec := { name := "fieldNoise", fn := fun _ => fun
  | [d1, d2] => { results := [.lit (.bool true)], args := [d1, d2] }
  | _ => none }
def fieldNoiseRow : OpenClaim := { program := "ytpapfbpefhcobaa", sum := "c04450c7506a0bd88e24933010f986ba083964647789b99b73c89ad91e2eacc4", func := "roadbook/roadbooklaw20.FieldNoise", spec := "fieldNoise", apart := false }
def FieldNoiseSaid : Prop := fieldNoiseRow.holds Try.pinned (OpenSpec.ofChange fieldNoiseSpec)

/-- ITS FALSE NEIGHBOUR: 'it returns false'. Refute it at one input. -/
def fieldNoiseWrong : ChangeSpec := { name := "fieldNoise", fn := fun _ => fun
  | [d1, d2] => { results := [.lit (.bool false)], args := [d1, d2] }
  | _ => none }
def FieldNoiseWrongFalsely : Prop := fieldNoiseRow.holds Try.pinned (OpenSpec.ofChange fieldNoiseWrong)

/-- 'roadbooklaw21.RouteTells': WHATEVER THE INPUT: true; the input reads as it did. -/
def routeTellsSpec : ChangeSpec := { name := "routeTells", fn := fun _ => fun
  | [d] => { results := [.lit (.bool true)], args := [d] }
  | _ => none }
def routeTellsRow : OpenClaim := { program := "ytpapfbpefhcobaa", sum := "c04450c7506a0bd88e24933010f986ba083964647789b99b73c89ad91e2eacc4", func := "roadbook/roadbooklaw21.RouteTells", spec := "routeTells", apart := false }
def RouteTellsSaid : Prop := routeTellsRow.holds Try.pinned (OpenSpec.ofChange routeTellsSpec)

/-- ITS FALSE NEIGHBOUR: 'it returns false'. Refute it at one input. -/
def routeTellsWrong : ChangeSpec := { name := "routeTells", fn := fun _ => fun
  | [d] => { results := [.lit (.bool false)], args := [d] }
  | _ => none }
def RouteTellsWrongFalsely : Prop := routeTellsRow.holds Try.pinned (OpenSpec.ofChange routeTellsWrong)

/-- 'roadbooklaw21.RouteBack': WHATEVER THE INPUT: true; the input reads as it did. -/
def routeBackSpec : ChangeSpec := { name := "routeBack", fn := fun _ => fun
  | [d1, d2] => { results := [.lit (.bool true)], args := [d1, d2] }
  | _ => none }
def routeBackRow : OpenClaim := { program := "ytpapfbpefhcobaa", sum := "c04450c7506a0bd88e24933010f986ba083964647789b99b73c89ad91e2eacc4", func := "roadbook/roadbooklaw21.RouteBack", spec := "routeBack", apart := false }
def RouteBackSaid : Prop := routeBackRow.holds Try.pinned (OpenSpec.ofChange routeBackSpec)

/-- ITS FALSE NEIGHBOUR: 'it returns false'. Refute it at one input. -/
def routeBackWrong : ChangeSpec := { name := "routeBack", fn := fun _ => fun
  | [d1, d2] => { results := [.lit (.bool false)], args := [d1, d2] }
  | _ => none }
def RouteBackWrongFalsely : Prop := routeBackRow.holds Try.pinned (OpenSpec.ofChange routeBackWrong)

/-- 'roadbooklaw21.RouteNoise': WHATEVER THE INPUT: true; the input reads as it did. -/
def routeNoiseSpec : ChangeSpec := { name := "routeNoise", fn := fun _ => fun
  | [d1, d2] => { results := [.lit (.bool true)], args := [d1, d2] }
  | _ => none }
def routeNoiseRow : OpenClaim := { program := "ytpapfbpefhcobaa", sum := "c04450c7506a0bd88e24933010f986ba083964647789b99b73c89ad91e2eacc4", func := "roadbook/roadbooklaw21.RouteNoise", spec := "routeNoise", apart := false }
def RouteNoiseSaid : Prop := routeNoiseRow.holds Try.pinned (OpenSpec.ofChange routeNoiseSpec)

/-- ITS FALSE NEIGHBOUR: 'it returns false'. Refute it at one input. -/
def routeNoiseWrong : ChangeSpec := { name := "routeNoise", fn := fun _ => fun
  | [d1, d2] => { results := [.lit (.bool false)], args := [d1, d2] }
  | _ => none }
def RouteNoiseWrongFalsely : Prop := routeNoiseRow.holds Try.pinned (OpenSpec.ofChange routeNoiseWrong)

/-- 'roadbooklaw21.RouteGets': WHATEVER THE INPUT: true; the input reads as it did. -/
def routeGetsSpec : ChangeSpec := { name := "routeGets", fn := fun _ => fun
  | [d] => { results := [.lit (.bool true)], args := [d] }
  | _ => none }
def routeGetsRow : OpenClaim := { program := "ytpapfbpefhcobaa", sum := "c04450c7506a0bd88e24933010f986ba083964647789b99b73c89ad91e2eacc4", func := "roadbook/roadbooklaw21.RouteGets", spec := "routeGets", apart := false }
def RouteGetsSaid : Prop := routeGetsRow.holds Try.pinned (OpenSpec.ofChange routeGetsSpec)

/-- ITS FALSE NEIGHBOUR: 'it returns false'. Refute it at one input. -/
def routeGetsWrong : ChangeSpec := { name := "routeGets", fn := fun _ => fun
  | [d] => { results := [.lit (.bool false)], args := [d] }
  | _ => none }
def RouteGetsWrongFalsely : Prop := routeGetsRow.holds Try.pinned (OpenSpec.ofChange routeGetsWrong)

/-- 'roadbooklaw21.RouteTakes': WHATEVER THE INPUT: true; the input reads as it did. -/
def routeTakesSpec : ChangeSpec := { name := "routeTakes", fn := fun _ => fun
  | [d] => { results := [.lit (.bool true)], args := [d] }
  | _ => none }
def routeTakesRow : OpenClaim := { program := "ytpapfbpefhcobaa", sum := "c04450c7506a0bd88e24933010f986ba083964647789b99b73c89ad91e2eacc4", func := "roadbook/roadbooklaw21.RouteTakes", spec := "routeTakes", apart := false }
def RouteTakesSaid : Prop := routeTakesRow.holds Try.pinned (OpenSpec.ofChange routeTakesSpec)

/-- ITS FALSE NEIGHBOUR: 'it returns false'. Refute it at one input. -/
def routeTakesWrong : ChangeSpec := { name := "routeTakes", fn := fun _ => fun
  | [d] => { results := [.lit (.bool false)], args := [d] }
  | _ => none }
def RouteTakesWrongFalsely : Prop := routeTakesRow.holds Try.pinned (OpenSpec.ofChange routeTakesWrong)

/- THE SECOND FORM. 'bulk': how many values and letters a reading holds, each counted each time it is reached (what is shared counts as often as it is met; a slice's spare places count too). A statement '..UptoSaid' is the law's where the arguments, and the package variables that the reading takes, are together of bulk at most 1048576: NARROWER than '..Said'. Prove '..Said' where nothing that the law and all that it calls make is longer than what came in: it says more and counts as full. Else prove '..UptoSaid'. A law counts once. -/
mutual
def uptoBulk {H : Type} : DataW H → Nat
  | .lit (.string bytes) => bytes.length + 1
  | .lit _ => 1
  | .nil => 1
  | .ptr d => uptoBulk d + 1
  | .slice elems spare => uptoBulkAll elems + uptoBulkAll spare + 1
  | .agg parts => uptoBulkAll parts + 1
  | .iface _ d => uptoBulk d + 1
  | .map entries => uptoBulkEntries entries + 1
  | .held _ => 1
def uptoBulkAll {H : Type} : List (DataW H) → Nat
  | [] => 0
  | d :: r => uptoBulk d + uptoBulkAll r
def uptoBulkEntries {H : Type} : List (Lit × DataW H) → Nat
  | [] => 0
  | x :: r => uptoBulkEntry x + uptoBulkEntries r
def uptoBulkEntry {H : Type} : Lit × DataW H → Nat
  | (.string bytes, d) => bytes.length + uptoBulk d + 1
  | (_, d) => uptoBulk d + 1
 end
def uptoSmall : (H : Type) → List (DataW H) → Bool := fun _ ds => decide (uptoBulkAll ds ≤ 1048576)
def OpenSpec.upto (s : _root_.Go.ChangeSpec) : _root_.Go.OpenSpec := { _root_.Go.OpenSpec.ofChange s with cond := some uptoSmall }

/-- 'roadbooklaw20.FieldTells', WHERE WHAT IT READS IS OF BULK AT MOST 1048576: true; the input reads as it did. -/
def fieldTellsUptoRow : OpenClaim := { program := "ytpapfbpefhcobaa", sum := "c04450c7506a0bd88e24933010f986ba083964647789b99b73c89ad91e2eacc4", func := "roadbook/roadbooklaw20.FieldTells", spec := "fieldTells", apart := false, narrowed := true }
def FieldTellsUptoSaid : Prop := fieldTellsUptoRow.holds Try.pinned (OpenSpec.upto fieldTellsSpec)

/-- 'roadbooklaw20.FieldGets', WHERE WHAT IT READS IS OF BULK AT MOST 1048576: true; the input reads as it did. -/
def fieldGetsUptoRow : OpenClaim := { program := "ytpapfbpefhcobaa", sum := "c04450c7506a0bd88e24933010f986ba083964647789b99b73c89ad91e2eacc4", func := "roadbook/roadbooklaw20.FieldGets", spec := "fieldGets", apart := false, narrowed := true }
def FieldGetsUptoSaid : Prop := fieldGetsUptoRow.holds Try.pinned (OpenSpec.upto fieldGetsSpec)

/-- 'roadbooklaw20.FieldBack', WHERE WHAT IT READS IS OF BULK AT MOST 1048576: true; the input reads as it did. -/
def fieldBackUptoRow : OpenClaim := { program := "ytpapfbpefhcobaa", sum := "c04450c7506a0bd88e24933010f986ba083964647789b99b73c89ad91e2eacc4", func := "roadbook/roadbooklaw20.FieldBack", spec := "fieldBack", apart := false, narrowed := true }
def FieldBackUptoSaid : Prop := fieldBackUptoRow.holds Try.pinned (OpenSpec.upto fieldBackSpec)

/-- 'roadbooklaw20.FieldNoise', WHERE WHAT IT READS IS OF BULK AT MOST 1048576: true; the input reads as it did. -/
def fieldNoiseUptoRow : OpenClaim := { program := "ytpapfbpefhcobaa", sum := "c04450c7506a0bd88e24933010f986ba083964647789b99b73c89ad91e2eacc4", func := "roadbook/roadbooklaw20.FieldNoise", spec := "fieldNoise", apart := false, narrowed := true }
def FieldNoiseUptoSaid : Prop := fieldNoiseUptoRow.holds Try.pinned (OpenSpec.upto fieldNoiseSpec)

/-- 'roadbooklaw21.RouteTells', WHERE WHAT IT READS IS OF BULK AT MOST 1048576: true; the input reads as it did. -/
def routeTellsUptoRow : OpenClaim := { program := "ytpapfbpefhcobaa", sum := "c04450c7506a0bd88e24933010f986ba083964647789b99b73c89ad91e2eacc4", func := "roadbook/roadbooklaw21.RouteTells", spec := "routeTells", apart := false, narrowed := true }
def RouteTellsUptoSaid : Prop := routeTellsUptoRow.holds Try.pinned (OpenSpec.upto routeTellsSpec)

/-- 'roadbooklaw21.RouteBack', WHERE WHAT IT READS IS OF BULK AT MOST 1048576: true; the input reads as it did. -/
def routeBackUptoRow : OpenClaim := { program := "ytpapfbpefhcobaa", sum := "c04450c7506a0bd88e24933010f986ba083964647789b99b73c89ad91e2eacc4", func := "roadbook/roadbooklaw21.RouteBack", spec := "routeBack", apart := false, narrowed := true }
def RouteBackUptoSaid : Prop := routeBackUptoRow.holds Try.pinned (OpenSpec.upto routeBackSpec)

/-- 'roadbooklaw21.RouteNoise', WHERE WHAT IT READS IS OF BULK AT MOST 1048576: true; the input reads as it did. -/
def routeNoiseUptoRow : OpenClaim := { program := "ytpapfbpefhcobaa", sum := "c04450c7506a0bd88e24933010f986ba083964647789b99b73c89ad91e2eacc4", func := "roadbook/roadbooklaw21.RouteNoise", spec := "routeNoise", apart := false, narrowed := true }
def RouteNoiseUptoSaid : Prop := routeNoiseUptoRow.holds Try.pinned (OpenSpec.upto routeNoiseSpec)

/-- 'roadbooklaw21.RouteGets', WHERE WHAT IT READS IS OF BULK AT MOST 1048576: true; the input reads as it did. -/
def routeGetsUptoRow : OpenClaim := { program := "ytpapfbpefhcobaa", sum := "c04450c7506a0bd88e24933010f986ba083964647789b99b73c89ad91e2eacc4", func := "roadbook/roadbooklaw21.RouteGets", spec := "routeGets", apart := false, narrowed := true }
def RouteGetsUptoSaid : Prop := routeGetsUptoRow.holds Try.pinned (OpenSpec.upto routeGetsSpec)

/-- 'roadbooklaw21.RouteTakes', WHERE WHAT IT READS IS OF BULK AT MOST 1048576: true; the input reads as it did. -/
def routeTakesUptoRow : OpenClaim := { program := "ytpapfbpefhcobaa", sum := "c04450c7506a0bd88e24933010f986ba083964647789b99b73c89ad91e2eacc4", func := "roadbook/roadbooklaw21.RouteTakes", spec := "routeTakes", apart := false, narrowed := true }
def RouteTakesUptoSaid : Prop := routeTakesUptoRow.holds Try.pinned (OpenSpec.upto routeTakesSpec)

end Rows
end Go.Proofs.Ytpapfbpefhcobaa
