/-
  DERIVED. GIVEN WITH THE SEED: THE CARDS: each row of YtpbbfbgmpidgnaaGreatDoorRows.lean that lists a variable, with what it lists TIED to the program's text (the seventh form; the later family's looks); each row that meets fmt, with fmt's text TOLD by the authors' own Lean function (tested against real Go, not proved from fmt's source: count such statements apart). THE CARD IS WHAT COUNTS. Prove the row's statement (the work); the ties are given (YtpbbfbgmpidgnaaGreatDoorTie.lean); close each card by the builder's one call (the guide's Derived/Test/ToyasCard.lean, 'card_holds'). Laid BY PROGRAM, IN A SANDBOX (cutbox-door.mjs). By AI agents, Wed Nov 11 2026. No macro, syntax, notation, axiom, sorry.
-/
import Derived.Test.YtpbbfbgmpidgnaaGreatDoorRows
import GoSem.ClaimSeven
namespace Go.Proofs.YtpbbfbgmpidgnaaGreatDoor
namespace Rows

/-- THE TIED CARD OF 'permafrostlaw18.SealNumbers'. -/
def sealNumbersCard : Claim7 := { stood := { row := sealNumbersRow, standIns := [], harness := (true, "8d8e46e7d4ee27fa0ee8f94fc49784cdcec808229963abbfc72e570936e6b2e2"), looks := false }, kinds := [], alts := [], laidByText := true, laidKinds := [.data, .pinned], laidTests := true, laidLooks := .later }
def SealNumbersCardSaid : Prop := Claim7.holds Tryz.pinned (.plain (OpenSpec.ofChange sealNumbersSpec)) sealNumbersCard

/-- THE TIED CARD OF 'permafrostlaw18.SealWalks'. -/
def sealWalksCard : Claim7 := { stood := { row := sealWalksRow, standIns := [], harness := (true, "8d8e46e7d4ee27fa0ee8f94fc49784cdcec808229963abbfc72e570936e6b2e2"), looks := false }, kinds := [], alts := [], laidByText := true, laidKinds := [.data, .pinned], laidTests := true, laidLooks := .later }
def SealWalksCardSaid : Prop := Claim7.holds Tryz.pinned (.plain (OpenSpec.ofChange sealWalksSpec)) sealWalksCard

/-- THE TIED CARD OF 'permafrostlaw18.SealLinks'. -/
def sealLinksCard : Claim7 := { stood := { row := sealLinksRow, standIns := [], harness := (true, "8d8e46e7d4ee27fa0ee8f94fc49784cdcec808229963abbfc72e570936e6b2e2"), looks := false }, kinds := [], alts := [], laidByText := true, laidKinds := [.data, .pinned], laidTests := true, laidLooks := .later }
def SealLinksCardSaid : Prop := Claim7.holds Tryz.pinned (.plain (OpenSpec.ofChange sealLinksSpec)) sealLinksCard

/-- THE TIED CARD OF 'permafrostlaw18.SealGrows'. -/
def sealGrowsCard : Claim7 := { stood := { row := sealGrowsRow, standIns := [], harness := (true, "8d8e46e7d4ee27fa0ee8f94fc49784cdcec808229963abbfc72e570936e6b2e2"), looks := false }, kinds := [], alts := [], laidByText := true, laidKinds := [.data, .pinned], laidTests := true, laidLooks := .later }
def SealGrowsCardSaid : Prop := Claim7.holds Tryz.pinned (.plain (OpenSpec.ofChange sealGrowsSpec)) sealGrowsCard

/-- THE TIED CARD OF 'permafrostlaw17.SegmentTells'. -/
def segmentTellsCard : Claim7 := { stood := { row := segmentTellsRow, standIns := [], harness := (true, "8d8e46e7d4ee27fa0ee8f94fc49784cdcec808229963abbfc72e570936e6b2e2"), looks := false }, kinds := [], alts := [], laidByText := true, laidKinds := [.data, .pinned], laidTests := true, laidLooks := .later }
def SegmentTellsCardSaid : Prop := Claim7.holds Tryz.pinned (.plain (OpenSpec.ofChange segmentTellsSpec)) segmentTellsCard

/-- THE TIED CARD OF 'permafrostlaw24.ProofGrows'. -/
def proofGrowsCard : Claim7 := { stood := { row := proofGrowsRow, standIns := [], harness := (true, "8d8e46e7d4ee27fa0ee8f94fc49784cdcec808229963abbfc72e570936e6b2e2"), looks := false }, kinds := [], alts := [], laidByText := true, laidKinds := [.data, .pinned], laidTests := true, laidLooks := .later }
def ProofGrowsCardSaid : Prop := Claim7.holds Tryz.pinned (.plain (OpenSpec.ofChange proofGrowsSpec)) proofGrowsCard

/-- THE TIED CARD OF 'permafrostlaw24.ProofApart'. -/
def proofApartCard : Claim7 := { stood := { row := proofApartRow, standIns := [], harness := (true, "8d8e46e7d4ee27fa0ee8f94fc49784cdcec808229963abbfc72e570936e6b2e2"), looks := false }, kinds := [], alts := [], laidByText := true, laidKinds := [.data, .pinned], laidTests := true, laidLooks := .later }
def ProofApartCardSaid : Prop := Claim7.holds Tryz.pinned (.plain (OpenSpec.ofChange proofApartSpec)) proofApartCard

/-- THE TIED CARD OF 'permafrostlaw24.ProofNumbers'. -/
def proofNumbersCard : Claim7 := { stood := { row := proofNumbersRow, standIns := [], harness := (true, "8d8e46e7d4ee27fa0ee8f94fc49784cdcec808229963abbfc72e570936e6b2e2"), looks := false }, kinds := [], alts := [], laidByText := true, laidKinds := [.data, .pinned], laidTests := true, laidLooks := .later }
def ProofNumbersCardSaid : Prop := Claim7.holds Tryz.pinned (.plain (OpenSpec.ofChange proofNumbersSpec)) proofNumbersCard

/-- THE TIED CARD OF 'permafrostlaw24.ProofTells'. -/
def proofTellsCard : Claim7 := { stood := { row := proofTellsRow, standIns := [], harness := (true, "8d8e46e7d4ee27fa0ee8f94fc49784cdcec808229963abbfc72e570936e6b2e2"), looks := false }, kinds := [], alts := [], laidByText := true, laidKinds := [.data, .pinned], laidTests := true, laidLooks := .later }
def ProofTellsCardSaid : Prop := Claim7.holds Tryz.pinned (.plain (OpenSpec.ofChange proofTellsSpec)) proofTellsCard

/-- THE TIED CARD OF 'permafrostlaw24.ProofBack'. -/
def proofBackCard : Claim7 := { stood := { row := proofBackRow, standIns := [], harness := (true, "8d8e46e7d4ee27fa0ee8f94fc49784cdcec808229963abbfc72e570936e6b2e2"), looks := false }, kinds := [], alts := [], laidByText := true, laidKinds := [.data, .pinned], laidTests := true, laidLooks := .later }
def ProofBackCardSaid : Prop := Claim7.holds Tryz.pinned (.plain (OpenSpec.ofChange proofBackSpec)) proofBackCard

/-- THE TIED CARD OF 'permafrostlaw24.ProofSizes'. -/
def proofSizesCard : Claim7 := { stood := { row := proofSizesRow, standIns := [], harness := (true, "8d8e46e7d4ee27fa0ee8f94fc49784cdcec808229963abbfc72e570936e6b2e2"), looks := false }, kinds := [], alts := [], laidByText := true, laidKinds := [.data, .pinned], laidTests := true, laidLooks := .later }
def ProofSizesCardSaid : Prop := Claim7.holds Tryz.pinned (.plain (OpenSpec.ofChange proofSizesSpec)) proofSizesCard

/-- THE SECOND FORM's CARD OF 'permafrostlaw18.SealNumbers'. -/
def sealNumbersUptoCard : Claim7 := { stood := { row := sealNumbersUptoRow, standIns := [], harness := (true, "8d8e46e7d4ee27fa0ee8f94fc49784cdcec808229963abbfc72e570936e6b2e2"), looks := false }, kinds := [], alts := [], laidByText := true, laidKinds := [.data, .pinned], laidTests := true, laidLooks := .later }
def SealNumbersUptoCardSaid : Prop := Claim7.holds Tryz.pinned (.plain (OpenSpec.upto sealNumbersSpec)) sealNumbersUptoCard

/-- THE SECOND FORM's CARD OF 'permafrostlaw18.SealWalks'. -/
def sealWalksUptoCard : Claim7 := { stood := { row := sealWalksUptoRow, standIns := [], harness := (true, "8d8e46e7d4ee27fa0ee8f94fc49784cdcec808229963abbfc72e570936e6b2e2"), looks := false }, kinds := [], alts := [], laidByText := true, laidKinds := [.data, .pinned], laidTests := true, laidLooks := .later }
def SealWalksUptoCardSaid : Prop := Claim7.holds Tryz.pinned (.plain (OpenSpec.upto sealWalksSpec)) sealWalksUptoCard

/-- THE SECOND FORM's CARD OF 'permafrostlaw18.SealLinks'. -/
def sealLinksUptoCard : Claim7 := { stood := { row := sealLinksUptoRow, standIns := [], harness := (true, "8d8e46e7d4ee27fa0ee8f94fc49784cdcec808229963abbfc72e570936e6b2e2"), looks := false }, kinds := [], alts := [], laidByText := true, laidKinds := [.data, .pinned], laidTests := true, laidLooks := .later }
def SealLinksUptoCardSaid : Prop := Claim7.holds Tryz.pinned (.plain (OpenSpec.upto sealLinksSpec)) sealLinksUptoCard

/-- THE SECOND FORM's CARD OF 'permafrostlaw18.SealGrows'. -/
def sealGrowsUptoCard : Claim7 := { stood := { row := sealGrowsUptoRow, standIns := [], harness := (true, "8d8e46e7d4ee27fa0ee8f94fc49784cdcec808229963abbfc72e570936e6b2e2"), looks := false }, kinds := [], alts := [], laidByText := true, laidKinds := [.data, .pinned], laidTests := true, laidLooks := .later }
def SealGrowsUptoCardSaid : Prop := Claim7.holds Tryz.pinned (.plain (OpenSpec.upto sealGrowsSpec)) sealGrowsUptoCard

/-- THE SECOND FORM's CARD OF 'permafrostlaw17.SegmentTells'. -/
def segmentTellsUptoCard : Claim7 := { stood := { row := segmentTellsUptoRow, standIns := [], harness := (true, "8d8e46e7d4ee27fa0ee8f94fc49784cdcec808229963abbfc72e570936e6b2e2"), looks := false }, kinds := [], alts := [], laidByText := true, laidKinds := [.data, .pinned], laidTests := true, laidLooks := .later }
def SegmentTellsUptoCardSaid : Prop := Claim7.holds Tryz.pinned (.plain (OpenSpec.upto segmentTellsSpec)) segmentTellsUptoCard

/-- THE SECOND FORM's CARD OF 'permafrostlaw24.ProofGrows'. -/
def proofGrowsUptoCard : Claim7 := { stood := { row := proofGrowsUptoRow, standIns := [], harness := (true, "8d8e46e7d4ee27fa0ee8f94fc49784cdcec808229963abbfc72e570936e6b2e2"), looks := false }, kinds := [], alts := [], laidByText := true, laidKinds := [.data, .pinned], laidTests := true, laidLooks := .later }
def ProofGrowsUptoCardSaid : Prop := Claim7.holds Tryz.pinned (.plain (OpenSpec.upto proofGrowsSpec)) proofGrowsUptoCard

/-- THE SECOND FORM's CARD OF 'permafrostlaw24.ProofApart'. -/
def proofApartUptoCard : Claim7 := { stood := { row := proofApartUptoRow, standIns := [], harness := (true, "8d8e46e7d4ee27fa0ee8f94fc49784cdcec808229963abbfc72e570936e6b2e2"), looks := false }, kinds := [], alts := [], laidByText := true, laidKinds := [.data, .pinned], laidTests := true, laidLooks := .later }
def ProofApartUptoCardSaid : Prop := Claim7.holds Tryz.pinned (.plain (OpenSpec.upto proofApartSpec)) proofApartUptoCard

/-- THE SECOND FORM's CARD OF 'permafrostlaw24.ProofNumbers'. -/
def proofNumbersUptoCard : Claim7 := { stood := { row := proofNumbersUptoRow, standIns := [], harness := (true, "8d8e46e7d4ee27fa0ee8f94fc49784cdcec808229963abbfc72e570936e6b2e2"), looks := false }, kinds := [], alts := [], laidByText := true, laidKinds := [.data, .pinned], laidTests := true, laidLooks := .later }
def ProofNumbersUptoCardSaid : Prop := Claim7.holds Tryz.pinned (.plain (OpenSpec.upto proofNumbersSpec)) proofNumbersUptoCard

/-- THE SECOND FORM's CARD OF 'permafrostlaw24.ProofTells'. -/
def proofTellsUptoCard : Claim7 := { stood := { row := proofTellsUptoRow, standIns := [], harness := (true, "8d8e46e7d4ee27fa0ee8f94fc49784cdcec808229963abbfc72e570936e6b2e2"), looks := false }, kinds := [], alts := [], laidByText := true, laidKinds := [.data, .pinned], laidTests := true, laidLooks := .later }
def ProofTellsUptoCardSaid : Prop := Claim7.holds Tryz.pinned (.plain (OpenSpec.upto proofTellsSpec)) proofTellsUptoCard

/-- THE SECOND FORM's CARD OF 'permafrostlaw24.ProofBack'. -/
def proofBackUptoCard : Claim7 := { stood := { row := proofBackUptoRow, standIns := [], harness := (true, "8d8e46e7d4ee27fa0ee8f94fc49784cdcec808229963abbfc72e570936e6b2e2"), looks := false }, kinds := [], alts := [], laidByText := true, laidKinds := [.data, .pinned], laidTests := true, laidLooks := .later }
def ProofBackUptoCardSaid : Prop := Claim7.holds Tryz.pinned (.plain (OpenSpec.upto proofBackSpec)) proofBackUptoCard

/-- THE SECOND FORM's CARD OF 'permafrostlaw24.ProofSizes'. -/
def proofSizesUptoCard : Claim7 := { stood := { row := proofSizesUptoRow, standIns := [], harness := (true, "8d8e46e7d4ee27fa0ee8f94fc49784cdcec808229963abbfc72e570936e6b2e2"), looks := false }, kinds := [], alts := [], laidByText := true, laidKinds := [.data, .pinned], laidTests := true, laidLooks := .later }
def ProofSizesUptoCardSaid : Prop := Claim7.holds Tryz.pinned (.plain (OpenSpec.upto proofSizesSpec)) proofSizesUptoCard
end Rows
end Go.Proofs.YtpbbfbgmpidgnaaGreatDoor
