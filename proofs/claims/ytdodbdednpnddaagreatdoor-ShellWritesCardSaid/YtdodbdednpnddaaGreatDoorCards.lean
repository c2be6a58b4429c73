/-
  DERIVED. GIVEN WITH THE SEED: THE CARDS: each row of YtdodbdednpnddaaGreatDoorRows.lean that lists a variable, with what it lists TIED to the program's text (the seventh form; the later family's looks); each row that meets fmt, with fmt's text TOLD by the authors' own Lean function (tested against real Go, not proved from fmt's source: count such statements apart). THE CARD IS WHAT COUNTS. Prove the row's statement (the work); the ties are given (YtdodbdednpnddaaGreatDoorTie.lean); close each card by the builder's one call (the guide's Derived/Test/ToyasCard.lean, 'card_holds'). Laid BY PROGRAM, IN A SANDBOX (cutbox-door.mjs). By AI agents, Wed Nov 11 2026. No macro, syntax, notation, axiom, sorry.
-/
import Derived.Test.YtdodbdednpnddaaGreatDoorRows
import GoSem.ClaimSeven
namespace Go.Proofs.YtdodbdednpnddaaGreatDoor
namespace Rows

/-- THE TIED CARD OF 'permafrostlaw28.ShellTexts'. -/
def shellTextsCard : Claim7 := { stood := { row := shellTextsRow, standIns := [], harness := (true, "6f6ab6846ab182def91b04e401df67065a1925028b84e11bbf7219710dd2796f"), looks := true }, kinds := [], alts := [], laidByText := true, laidKinds := [.data, .data, .data, .data, .pinned], laidTests := true, laidLooks := .later }
def ShellTextsCardSaid : Prop := Claim7.holds Tryz.pinned (.plain (OpenSpec.ofChange shellTextsSpec)) shellTextsCard

/-- THE TIED CARD OF 'permafrostlaw28.ShellReads'. -/
def shellReadsCard : Claim7 := { stood := { row := shellReadsRow, standIns := [], harness := (true, "6f6ab6846ab182def91b04e401df67065a1925028b84e11bbf7219710dd2796f"), looks := true }, kinds := [], alts := [], laidByText := true, laidKinds := [.data, .data, .data, .data, .pinned], laidTests := true, laidLooks := .later }
def ShellReadsCardSaid : Prop := Claim7.holds Tryz.pinned (.plain (OpenSpec.ofChange shellReadsSpec)) shellReadsCard

/-- THE TIED CARD OF 'permafrostlaw28.ShellWrites'. -/
def shellWritesCard : Claim7 := { stood := { row := shellWritesRow, standIns := [], harness := (true, "6f6ab6846ab182def91b04e401df67065a1925028b84e11bbf7219710dd2796f"), looks := true }, kinds := [], alts := [], laidByText := true, laidKinds := [.data, .data, .data, .data, .pinned], laidTests := true, laidLooks := .later }
def ShellWritesCardSaid : Prop := Claim7.holds Tryz.pinned (.plain (OpenSpec.ofChange shellWritesSpec)) shellWritesCard

/-- THE TIED CARD OF 'permafrostlaw28.ShellBack'. -/
def shellBackCard : Claim7 := { stood := { row := shellBackRow, standIns := [], harness := (true, "6f6ab6846ab182def91b04e401df67065a1925028b84e11bbf7219710dd2796f"), looks := true }, kinds := [], alts := [], laidByText := true, laidKinds := [.data, .data, .data, .data, .pinned], laidTests := true, laidLooks := .later }
def ShellBackCardSaid : Prop := Claim7.holds Tryz.pinned (.plain (OpenSpec.ofChange shellBackSpec)) shellBackCard

/-- THE SECOND FORM's CARD OF 'permafrostlaw28.ShellTexts'. -/
def shellTextsUptoCard : Claim7 := { stood := { row := shellTextsUptoRow, standIns := [], harness := (true, "6f6ab6846ab182def91b04e401df67065a1925028b84e11bbf7219710dd2796f"), looks := true }, kinds := [], alts := [], laidByText := true, laidKinds := [.data, .data, .data, .data, .pinned], laidTests := true, laidLooks := .later }
def ShellTextsUptoCardSaid : Prop := Claim7.holds Tryz.pinned (.plain (OpenSpec.upto shellTextsSpec)) shellTextsUptoCard

/-- THE SECOND FORM's CARD OF 'permafrostlaw28.ShellReads'. -/
def shellReadsUptoCard : Claim7 := { stood := { row := shellReadsUptoRow, standIns := [], harness := (true, "6f6ab6846ab182def91b04e401df67065a1925028b84e11bbf7219710dd2796f"), looks := true }, kinds := [], alts := [], laidByText := true, laidKinds := [.data, .data, .data, .data, .pinned], laidTests := true, laidLooks := .later }
def ShellReadsUptoCardSaid : Prop := Claim7.holds Tryz.pinned (.plain (OpenSpec.upto shellReadsSpec)) shellReadsUptoCard

/-- THE SECOND FORM's CARD OF 'permafrostlaw28.ShellWrites'. -/
def shellWritesUptoCard : Claim7 := { stood := { row := shellWritesUptoRow, standIns := [], harness := (true, "6f6ab6846ab182def91b04e401df67065a1925028b84e11bbf7219710dd2796f"), looks := true }, kinds := [], alts := [], laidByText := true, laidKinds := [.data, .data, .data, .data, .pinned], laidTests := true, laidLooks := .later }
def ShellWritesUptoCardSaid : Prop := Claim7.holds Tryz.pinned (.plain (OpenSpec.upto shellWritesSpec)) shellWritesUptoCard

/-- THE SECOND FORM's CARD OF 'permafrostlaw28.ShellBack'. -/
def shellBackUptoCard : Claim7 := { stood := { row := shellBackUptoRow, standIns := [], harness := (true, "6f6ab6846ab182def91b04e401df67065a1925028b84e11bbf7219710dd2796f"), looks := true }, kinds := [], alts := [], laidByText := true, laidKinds := [.data, .data, .data, .data, .pinned], laidTests := true, laidLooks := .later }
def ShellBackUptoCardSaid : Prop := Claim7.holds Tryz.pinned (.plain (OpenSpec.upto shellBackSpec)) shellBackUptoCard
end Rows
end Go.Proofs.YtdodbdednpnddaaGreatDoor
