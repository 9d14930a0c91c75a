/-
  DERIVED. GIVEN WITH THE SEED: THE CARDS: each row of YtblajikhleocpaaDoorRows.lean that lists a variable, with what it lists TIED to the program's text (the seventh form; the later family's looks); each row that meets fmt, with fmt's text TOLD by the authors' own Lean function (tested against real Go, not proved from fmt's source: count such statements apart). THE CARD IS WHAT COUNTS. Prove the row's statement (the work); the ties are given (YtblajikhleocpaaDoorTie.lean); close each card by the builder's one call (the guide's Derived/Test/ToyasCard.lean, 'card_holds'). Laid BY PROGRAM, IN A SANDBOX (cutbox-door.mjs). By AI agents, Wed Nov 11 2026. No macro, syntax, notation, axiom, sorry.
-/
import Derived.Test.YtblajikhleocpaaDoorRows
import GoSem.ClaimSeven
namespace Go.Proofs.YtblajikhleocpaaDoor
namespace Rows

/-- THE TIED CARD OF 'roadbooklaw06.AddrTexts'. -/
def addrTextsCard : Claim7 := { stood := { row := addrTextsRow, standIns := [], harness := (true, "d459f23fb91de1f537864ded12869cc7e81302aa69d1dcfc96146a6918e8d4b6"), looks := false }, kinds := [], alts := [], laidByText := true, laidKinds := [.data, .data, .data, .data, .pinned], laidTests := true, laidLooks := .later }
def AddrTextsCardSaid : Prop := Claim7.holds Tryd.pinned (.plain (OpenSpec.ofChange addrTextsSpec)) addrTextsCard

/-- THE TIED CARD OF 'roadbooklaw06.AddrTells'. -/
def addrTellsCard : Claim7 := { stood := { row := addrTellsRow, standIns := [], harness := (true, "d459f23fb91de1f537864ded12869cc7e81302aa69d1dcfc96146a6918e8d4b6"), looks := false }, kinds := [], alts := [], laidByText := true, laidKinds := [.data, .data, .data, .data, .pinned], laidTests := true, laidLooks := .later }
def AddrTellsCardSaid : Prop := Claim7.holds Tryd.pinned (.plain (OpenSpec.ofChange addrTellsSpec)) addrTellsCard

/-- THE TIED CARD OF 'roadbooklaw06.AddrForms'. -/
def addrFormsCard : Claim7 := { stood := { row := addrFormsRow, standIns := [], harness := (true, "d459f23fb91de1f537864ded12869cc7e81302aa69d1dcfc96146a6918e8d4b6"), looks := false }, kinds := [], alts := [], laidByText := true, laidKinds := [.data, .data, .data, .data, .pinned], laidTests := true, laidLooks := .later }
def AddrFormsCardSaid : Prop := Claim7.holds Tryd.pinned (.plain (OpenSpec.ofChange addrFormsSpec)) addrFormsCard

/-- THE SECOND FORM's CARD OF 'roadbooklaw06.AddrTexts'. -/
def addrTextsUptoCard : Claim7 := { stood := { row := addrTextsUptoRow, standIns := [], harness := (true, "d459f23fb91de1f537864ded12869cc7e81302aa69d1dcfc96146a6918e8d4b6"), looks := false }, kinds := [], alts := [], laidByText := true, laidKinds := [.data, .data, .data, .data, .pinned], laidTests := true, laidLooks := .later }
def AddrTextsUptoCardSaid : Prop := Claim7.holds Tryd.pinned (.plain (OpenSpec.upto addrTextsSpec)) addrTextsUptoCard

/-- THE SECOND FORM's CARD OF 'roadbooklaw06.AddrTells'. -/
def addrTellsUptoCard : Claim7 := { stood := { row := addrTellsUptoRow, standIns := [], harness := (true, "d459f23fb91de1f537864ded12869cc7e81302aa69d1dcfc96146a6918e8d4b6"), looks := false }, kinds := [], alts := [], laidByText := true, laidKinds := [.data, .data, .data, .data, .pinned], laidTests := true, laidLooks := .later }
def AddrTellsUptoCardSaid : Prop := Claim7.holds Tryd.pinned (.plain (OpenSpec.upto addrTellsSpec)) addrTellsUptoCard

/-- THE SECOND FORM's CARD OF 'roadbooklaw06.AddrForms'. -/
def addrFormsUptoCard : Claim7 := { stood := { row := addrFormsUptoRow, standIns := [], harness := (true, "d459f23fb91de1f537864ded12869cc7e81302aa69d1dcfc96146a6918e8d4b6"), looks := false }, kinds := [], alts := [], laidByText := true, laidKinds := [.data, .data, .data, .data, .pinned], laidTests := true, laidLooks := .later }
def AddrFormsUptoCardSaid : Prop := Claim7.holds Tryd.pinned (.plain (OpenSpec.upto addrFormsSpec)) addrFormsUptoCard
end Rows
end Go.Proofs.YtblajikhleocpaaDoor
