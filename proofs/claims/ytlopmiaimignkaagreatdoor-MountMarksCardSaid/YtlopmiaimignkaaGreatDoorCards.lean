/-
  DERIVED. GIVEN WITH THE SEED: THE CARDS: each row of YtlopmiaimignkaaGreatDoorRows.lean that lists a variable, with what it lists TIED to the program's text (the seventh form; the later family's looks); each row that meets fmt, with fmt's text TOLD by the authors' own Lean function (tested against real Go, not proved from fmt's source: count such statements apart). THE CARD IS WHAT COUNTS. Prove the row's statement (the work); the ties are given (YtlopmiaimignkaaGreatDoorTie.lean); close each card by the builder's one call (the guide's Derived/Test/ToyasCard.lean, 'card_holds'). Laid BY PROGRAM, IN A SANDBOX (cutbox-door.mjs). By AI agents, Wed Nov 11 2026. No macro, syntax, notation, axiom, sorry.
-/
import Derived.Test.YtlopmiaimignkaaGreatDoorRows
import GoSem.ClaimSeven
namespace Go.Proofs.YtlopmiaimignkaaGreatDoor
namespace Rows

/-- THE TIED CARD OF 'permafrostlaw22.MountMarks'. -/
def mountMarksCard : Claim7 := { stood := { row := mountMarksRow, standIns := [], harness := (true, "8af7e8247675e3903e9efc518a33883f80cb8a4f67341201232a876ba09449fc"), looks := true }, kinds := [], alts := [], laidByText := true, laidKinds := [.data, .pinned], laidTests := true, laidLooks := .later }
def MountMarksCardSaid : Prop := Claim7.holds Tryz.pinned (.plain (OpenSpec.ofChange mountMarksSpec)) mountMarksCard

/-- THE SECOND FORM's CARD OF 'permafrostlaw22.MountMarks'. -/
def mountMarksUptoCard : Claim7 := { stood := { row := mountMarksUptoRow, standIns := [], harness := (true, "8af7e8247675e3903e9efc518a33883f80cb8a4f67341201232a876ba09449fc"), looks := true }, kinds := [], alts := [], laidByText := true, laidKinds := [.data, .pinned], laidTests := true, laidLooks := .later }
def MountMarksUptoCardSaid : Prop := Claim7.holds Tryz.pinned (.plain (OpenSpec.upto mountMarksSpec)) mountMarksUptoCard
end Rows
end Go.Proofs.YtlopmiaimignkaaGreatDoor
