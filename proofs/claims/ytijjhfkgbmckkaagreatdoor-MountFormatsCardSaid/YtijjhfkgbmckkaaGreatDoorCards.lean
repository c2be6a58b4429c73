/-
  DERIVED. GIVEN WITH THE SEED: THE CARDS: each row of YtijjhfkgbmckkaaGreatDoorRows.lean that lists a variable, with what it lists TIED to the program's text (the seventh form; the later family's looks); each row that meets fmt, with fmt's text TOLD by the authors' own Lean function (tested against real Go, not proved from fmt's source: count such statements apart). THE CARD IS WHAT COUNTS. Prove the row's statement (the work); the ties are given (YtijjhfkgbmckkaaGreatDoorTie.lean); close each card by the builder's one call (the guide's Derived/Test/ToyasCard.lean, 'card_holds'). Laid BY PROGRAM, IN A SANDBOX (cutbox-door.mjs). By AI agents, Wed Nov 11 2026. No macro, syntax, notation, axiom, sorry.
-/
import Derived.Test.YtijjhfkgbmckkaaGreatDoorRows
import GoSem.ClaimSeven
namespace Go.Proofs.YtijjhfkgbmckkaaGreatDoor
namespace Rows

/-- THE TIED CARD OF 'permafrostlaw22.MountFormats'. -/
def mountFormatsCard : Claim7 := { stood := { row := mountFormatsRow, standIns := [], harness := (true, "c789585266ed1f19c71ce604c2c6d22884986a7606f269d5451da47ec18bb854"), looks := true }, kinds := [], alts := [], laidByText := true, laidKinds := [.data, .pinned], laidTests := true, laidLooks := .later }
def MountFormatsCardSaid : Prop := Claim7.holds Tryz.pinned (.plain (OpenSpec.ofChange mountFormatsSpec)) mountFormatsCard

/-- THE TIED CARD OF 'permafrostlaw22.MountMarks'. -/
def mountMarksCard : Claim7 := { stood := { row := mountMarksRow, standIns := [], harness := (true, "c789585266ed1f19c71ce604c2c6d22884986a7606f269d5451da47ec18bb854"), looks := true }, kinds := [], alts := [], laidByText := true, laidKinds := [.data, .pinned], laidTests := true, laidLooks := .later }
def MountMarksCardSaid : Prop := Claim7.holds Tryz.pinned (.plain (OpenSpec.ofChange mountMarksSpec)) mountMarksCard

/-- THE TIED CARD OF 'permafrostlaw22.MountAgain'. -/
def mountAgainCard : Claim7 := { stood := { row := mountAgainRow, standIns := [], harness := (true, "c789585266ed1f19c71ce604c2c6d22884986a7606f269d5451da47ec18bb854"), looks := true }, kinds := [], alts := [], laidByText := true, laidKinds := [.data, .pinned], laidTests := true, laidLooks := .later }
def MountAgainCardSaid : Prop := Claim7.holds Tryz.pinned (.plain (OpenSpec.ofChange mountAgainSpec)) mountAgainCard

/-- THE TIED CARD OF 'permafrostlaw22.MountAnchored'. -/
def mountAnchoredCard : Claim7 := { stood := { row := mountAnchoredRow, standIns := [], harness := (true, "c789585266ed1f19c71ce604c2c6d22884986a7606f269d5451da47ec18bb854"), looks := true }, kinds := [], alts := [], laidByText := true, laidKinds := [.data, .pinned], laidTests := true, laidLooks := .later }
def MountAnchoredCardSaid : Prop := Claim7.holds Tryz.pinned (.plain (OpenSpec.ofChange mountAnchoredSpec)) mountAnchoredCard

/-- THE TIED CARD OF 'permafrostlaw22.MountFinds'. -/
def mountFindsCard : Claim7 := { stood := { row := mountFindsRow, standIns := [], harness := (true, "c789585266ed1f19c71ce604c2c6d22884986a7606f269d5451da47ec18bb854"), looks := true }, kinds := [], alts := [], laidByText := true, laidKinds := [.data, .pinned], laidTests := true, laidLooks := .later }
def MountFindsCardSaid : Prop := Claim7.holds Tryz.pinned (.plain (OpenSpec.ofChange mountFindsSpec)) mountFindsCard

/-- THE TIED CARD OF 'permafrostlaw22.MountNumbers'. -/
def mountNumbersCard : Claim7 := { stood := { row := mountNumbersRow, standIns := [], harness := (true, "c789585266ed1f19c71ce604c2c6d22884986a7606f269d5451da47ec18bb854"), looks := true }, kinds := [], alts := [], laidByText := true, laidKinds := [.data, .pinned], laidTests := true, laidLooks := .later }
def MountNumbersCardSaid : Prop := Claim7.holds Tryz.pinned (.plain (OpenSpec.ofChange mountNumbersSpec)) mountNumbersCard

/-- THE SECOND FORM's CARD OF 'permafrostlaw22.MountFormats'. -/
def mountFormatsUptoCard : Claim7 := { stood := { row := mountFormatsUptoRow, standIns := [], harness := (true, "c789585266ed1f19c71ce604c2c6d22884986a7606f269d5451da47ec18bb854"), looks := true }, kinds := [], alts := [], laidByText := true, laidKinds := [.data, .pinned], laidTests := true, laidLooks := .later }
def MountFormatsUptoCardSaid : Prop := Claim7.holds Tryz.pinned (.plain (OpenSpec.upto mountFormatsSpec)) mountFormatsUptoCard

/-- THE SECOND FORM's CARD OF 'permafrostlaw22.MountMarks'. -/
def mountMarksUptoCard : Claim7 := { stood := { row := mountMarksUptoRow, standIns := [], harness := (true, "c789585266ed1f19c71ce604c2c6d22884986a7606f269d5451da47ec18bb854"), looks := true }, kinds := [], alts := [], laidByText := true, laidKinds := [.data, .pinned], laidTests := true, laidLooks := .later }
def MountMarksUptoCardSaid : Prop := Claim7.holds Tryz.pinned (.plain (OpenSpec.upto mountMarksSpec)) mountMarksUptoCard

/-- THE SECOND FORM's CARD OF 'permafrostlaw22.MountAgain'. -/
def mountAgainUptoCard : Claim7 := { stood := { row := mountAgainUptoRow, standIns := [], harness := (true, "c789585266ed1f19c71ce604c2c6d22884986a7606f269d5451da47ec18bb854"), looks := true }, kinds := [], alts := [], laidByText := true, laidKinds := [.data, .pinned], laidTests := true, laidLooks := .later }
def MountAgainUptoCardSaid : Prop := Claim7.holds Tryz.pinned (.plain (OpenSpec.upto mountAgainSpec)) mountAgainUptoCard

/-- THE SECOND FORM's CARD OF 'permafrostlaw22.MountAnchored'. -/
def mountAnchoredUptoCard : Claim7 := { stood := { row := mountAnchoredUptoRow, standIns := [], harness := (true, "c789585266ed1f19c71ce604c2c6d22884986a7606f269d5451da47ec18bb854"), looks := true }, kinds := [], alts := [], laidByText := true, laidKinds := [.data, .pinned], laidTests := true, laidLooks := .later }
def MountAnchoredUptoCardSaid : Prop := Claim7.holds Tryz.pinned (.plain (OpenSpec.upto mountAnchoredSpec)) mountAnchoredUptoCard

/-- THE SECOND FORM's CARD OF 'permafrostlaw22.MountFinds'. -/
def mountFindsUptoCard : Claim7 := { stood := { row := mountFindsUptoRow, standIns := [], harness := (true, "c789585266ed1f19c71ce604c2c6d22884986a7606f269d5451da47ec18bb854"), looks := true }, kinds := [], alts := [], laidByText := true, laidKinds := [.data, .pinned], laidTests := true, laidLooks := .later }
def MountFindsUptoCardSaid : Prop := Claim7.holds Tryz.pinned (.plain (OpenSpec.upto mountFindsSpec)) mountFindsUptoCard

/-- THE SECOND FORM's CARD OF 'permafrostlaw22.MountNumbers'. -/
def mountNumbersUptoCard : Claim7 := { stood := { row := mountNumbersUptoRow, standIns := [], harness := (true, "c789585266ed1f19c71ce604c2c6d22884986a7606f269d5451da47ec18bb854"), looks := true }, kinds := [], alts := [], laidByText := true, laidKinds := [.data, .pinned], laidTests := true, laidLooks := .later }
def MountNumbersUptoCardSaid : Prop := Claim7.holds Tryz.pinned (.plain (OpenSpec.upto mountNumbersSpec)) mountNumbersUptoCard
end Rows
end Go.Proofs.YtijjhfkgbmckkaaGreatDoor
