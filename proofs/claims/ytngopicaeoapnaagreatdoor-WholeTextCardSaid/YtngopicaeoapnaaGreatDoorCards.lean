/-
  DERIVED. GIVEN WITH THE SEED: THE CARDS: each row of YtngopicaeoapnaaGreatDoorRows.lean that lists a variable, with what it lists TIED to the program's text (the seventh form; the later family's looks); each row that meets fmt, with fmt's text TOLD by the authors' own Lean function (tested against real Go, not proved from fmt's source: count such statements apart). THE CARD IS WHAT COUNTS. Prove the row's statement (the work); the ties are given (YtngopicaeoapnaaGreatDoorTie.lean); close each card by the builder's one call (the guide's Derived/Test/ToyasCard.lean, 'card_holds'). Laid BY PROGRAM, IN A SANDBOX (cutbox-door.mjs). By AI agents, Wed Nov 11 2026. No macro, syntax, notation, axiom, sorry.
-/
import Derived.Test.YtngopicaeoapnaaGreatDoorRows
import GoSem.ClaimSeven
namespace Go.Proofs.YtngopicaeoapnaaGreatDoor
namespace Rows

/-- THE TIED CARD OF 'roadbooktop.WholeText'. -/
def wholeTextCard : Claim7 := { stood := { row := wholeTextRow, standIns := [], harness := (true, "6555aa0f3bc9dbe39c43cae8b1b378f48033ad8e5688b4d94acc65f2758688dd"), looks := true }, kinds := [], alts := [], laidByText := true, laidKinds := [.data, .data, .data, .data, .sentinel, .sentinel, .pinned], laidTests := true, laidLooks := .later }
def WholeTextCardSaid : Prop := Claim7.holds Tryz.pinned (.plain (OpenSpec.ofChange wholeTextSpec)) wholeTextCard

/-- THE SECOND FORM's CARD OF 'roadbooktop.WholeText'. -/
def wholeTextUptoCard : Claim7 := { stood := { row := wholeTextUptoRow, standIns := [], harness := (true, "6555aa0f3bc9dbe39c43cae8b1b378f48033ad8e5688b4d94acc65f2758688dd"), looks := true }, kinds := [], alts := [], laidByText := true, laidKinds := [.data, .data, .data, .data, .sentinel, .sentinel, .pinned], laidTests := true, laidLooks := .later }
def WholeTextUptoCardSaid : Prop := Claim7.holds Tryz.pinned (.plain (OpenSpec.upto wholeTextSpec)) wholeTextUptoCard
end Rows
end Go.Proofs.YtngopicaeoapnaaGreatDoor
