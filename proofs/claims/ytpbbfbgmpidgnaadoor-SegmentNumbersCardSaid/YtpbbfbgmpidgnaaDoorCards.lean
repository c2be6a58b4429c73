/-
  DERIVED. GIVEN WITH THE SEED: THE CARDS: each row of YtpbbfbgmpidgnaaDoorRows.lean that lists a variable, with what it lists TIED to the program's text (the seventh form; the later family's looks); each row that meets fmt, with fmt's text TOLD by the authors' own Lean function (tested against real Go, not proved from fmt's source: count such statements apart). THE CARD IS WHAT COUNTS. Prove the row's statement (the work); the ties are given (YtpbbfbgmpidgnaaDoorTie.lean); close each card by the builder's one call (the guide's Derived/Test/ToyasCard.lean, 'card_holds'). Laid BY PROGRAM, IN A SANDBOX (cutbox-door.mjs). By AI agents, Wed Nov 11 2026. No macro, syntax, notation, axiom, sorry.
-/
import Derived.Test.YtpbbfbgmpidgnaaDoorRows
import GoSem.ClaimSeven
namespace Go.Proofs.YtpbbfbgmpidgnaaDoor
namespace Rows

/-- THE TIED CARD OF 'permafrostlaw17.SegmentBack'. -/
def segmentBackCard : Claim7 := { stood := { row := segmentBackRow, standIns := [], harness := (true, "f6114a57fc3b9c4df79d8bf76cc0c3b30032525b1a407366832a6a3149cc070f"), looks := false }, kinds := [], alts := [], laidByText := true, laidKinds := [.data, .pinned], laidTests := true, laidLooks := .later }
def SegmentBackCardSaid : Prop := Claim7.holds Tryd.pinned (.plain (OpenSpec.ofChange segmentBackSpec)) segmentBackCard

/-- THE TIED CARD OF 'permafrostlaw17.SegmentCuts'. -/
def segmentCutsCard : Claim7 := { stood := { row := segmentCutsRow, standIns := [], harness := (true, "f6114a57fc3b9c4df79d8bf76cc0c3b30032525b1a407366832a6a3149cc070f"), looks := false }, kinds := [], alts := [], laidByText := true, laidKinds := [.data, .pinned], laidTests := true, laidLooks := .later }
def SegmentCutsCardSaid : Prop := Claim7.holds Tryd.pinned (.plain (OpenSpec.ofChange segmentCutsSpec)) segmentCutsCard

/-- THE TIED CARD OF 'permafrostlaw18.SealOther'. -/
def sealOtherCard : Claim7 := { stood := { row := sealOtherRow, standIns := [], harness := (true, "f6114a57fc3b9c4df79d8bf76cc0c3b30032525b1a407366832a6a3149cc070f"), looks := false }, kinds := [], alts := [], laidByText := true, laidKinds := [.data, .pinned], laidTests := true, laidLooks := .later }
def SealOtherCardSaid : Prop := Claim7.holds Tryd.pinned (.plain (OpenSpec.ofChange sealOtherSpec)) sealOtherCard

/-- THE TIED CARD OF 'permafrostlaw17.SegmentNumbers'. -/
def segmentNumbersCard : Claim7 := { stood := { row := segmentNumbersRow, standIns := [], harness := (true, "f6114a57fc3b9c4df79d8bf76cc0c3b30032525b1a407366832a6a3149cc070f"), looks := false }, kinds := [], alts := [], laidByText := true, laidKinds := [.data, .pinned], laidTests := true, laidLooks := .later }
def SegmentNumbersCardSaid : Prop := Claim7.holds Tryd.pinned (.plain (OpenSpec.ofChange segmentNumbersSpec)) segmentNumbersCard

/-- THE SECOND FORM's CARD OF 'permafrostlaw17.SegmentBack'. -/
def segmentBackUptoCard : Claim7 := { stood := { row := segmentBackUptoRow, standIns := [], harness := (true, "f6114a57fc3b9c4df79d8bf76cc0c3b30032525b1a407366832a6a3149cc070f"), looks := false }, kinds := [], alts := [], laidByText := true, laidKinds := [.data, .pinned], laidTests := true, laidLooks := .later }
def SegmentBackUptoCardSaid : Prop := Claim7.holds Tryd.pinned (.plain (OpenSpec.upto segmentBackSpec)) segmentBackUptoCard

/-- THE SECOND FORM's CARD OF 'permafrostlaw17.SegmentCuts'. -/
def segmentCutsUptoCard : Claim7 := { stood := { row := segmentCutsUptoRow, standIns := [], harness := (true, "f6114a57fc3b9c4df79d8bf76cc0c3b30032525b1a407366832a6a3149cc070f"), looks := false }, kinds := [], alts := [], laidByText := true, laidKinds := [.data, .pinned], laidTests := true, laidLooks := .later }
def SegmentCutsUptoCardSaid : Prop := Claim7.holds Tryd.pinned (.plain (OpenSpec.upto segmentCutsSpec)) segmentCutsUptoCard

/-- THE SECOND FORM's CARD OF 'permafrostlaw18.SealOther'. -/
def sealOtherUptoCard : Claim7 := { stood := { row := sealOtherUptoRow, standIns := [], harness := (true, "f6114a57fc3b9c4df79d8bf76cc0c3b30032525b1a407366832a6a3149cc070f"), looks := false }, kinds := [], alts := [], laidByText := true, laidKinds := [.data, .pinned], laidTests := true, laidLooks := .later }
def SealOtherUptoCardSaid : Prop := Claim7.holds Tryd.pinned (.plain (OpenSpec.upto sealOtherSpec)) sealOtherUptoCard

/-- THE SECOND FORM's CARD OF 'permafrostlaw17.SegmentNumbers'. -/
def segmentNumbersUptoCard : Claim7 := { stood := { row := segmentNumbersUptoRow, standIns := [], harness := (true, "f6114a57fc3b9c4df79d8bf76cc0c3b30032525b1a407366832a6a3149cc070f"), looks := false }, kinds := [], alts := [], laidByText := true, laidKinds := [.data, .pinned], laidTests := true, laidLooks := .later }
def SegmentNumbersUptoCardSaid : Prop := Claim7.holds Tryd.pinned (.plain (OpenSpec.upto segmentNumbersSpec)) segmentNumbersUptoCard
end Rows
end Go.Proofs.YtpbbfbgmpidgnaaDoor
