/-
  DERIVED. GIVEN WITH THE SEED: THE CARDS: each row of YtfegdgaanmcecaaGreatDoorRows.lean that lists a variable, with what it lists TIED to the program's text (the seventh form; the later family's looks); each row that meets fmt, with fmt's text TOLD by the authors' own Lean function (tested against real Go, not proved from fmt's source: count such statements apart). THE CARD IS WHAT COUNTS. Prove the row's statement (the work); the ties are given (YtfegdgaanmcecaaGreatDoorTie.lean); close each card by the builder's one call (the guide's Derived/Test/ToyasCard.lean, 'card_holds'). Laid BY PROGRAM, IN A SANDBOX (cutbox-door.mjs). By AI agents, Wed Nov 11 2026. No macro, syntax, notation, axiom, sorry.
-/
import Derived.Test.YtfegdgaanmcecaaGreatDoorRows
import GoSem.ClaimSeven
namespace Go.Proofs.YtfegdgaanmcecaaGreatDoor
namespace Rows

/-- THE TIED CARD OF 'permafrostlaw24.ProofGrows'. -/
def proofGrowsCard : Claim7 := { stood := { row := proofGrowsRow, standIns := [], harness := (true, "8a283c2a28f1d792428680a1b6125128788aff83c09e8a73a3e1327531ef3264"), looks := false }, kinds := [], alts := [], laidByText := true, laidKinds := [.data, .pinned], laidTests := true, laidLooks := .later }
def ProofGrowsCardSaid : Prop := Claim7.holds Tryz.pinned (.plain (OpenSpec.ofChange proofGrowsSpec)) proofGrowsCard

/-- THE TIED CARD OF 'permafrostlaw24.ProofApart'. -/
def proofApartCard : Claim7 := { stood := { row := proofApartRow, standIns := [], harness := (true, "8a283c2a28f1d792428680a1b6125128788aff83c09e8a73a3e1327531ef3264"), looks := false }, kinds := [], alts := [], laidByText := true, laidKinds := [.data, .pinned], laidTests := true, laidLooks := .later }
def ProofApartCardSaid : Prop := Claim7.holds Tryz.pinned (.plain (OpenSpec.ofChange proofApartSpec)) proofApartCard

/-- THE TIED CARD OF 'permafrostlaw24.ProofNumbers'. -/
def proofNumbersCard : Claim7 := { stood := { row := proofNumbersRow, standIns := [], harness := (true, "8a283c2a28f1d792428680a1b6125128788aff83c09e8a73a3e1327531ef3264"), looks := false }, kinds := [], alts := [], laidByText := true, laidKinds := [.data, .pinned], laidTests := true, laidLooks := .later }
def ProofNumbersCardSaid : Prop := Claim7.holds Tryz.pinned (.plain (OpenSpec.ofChange proofNumbersSpec)) proofNumbersCard

/-- THE TIED CARD OF 'permafrostlaw24.ProofTells'. -/
def proofTellsCard : Claim7 := { stood := { row := proofTellsRow, standIns := [], harness := (true, "8a283c2a28f1d792428680a1b6125128788aff83c09e8a73a3e1327531ef3264"), looks := false }, kinds := [], alts := [], laidByText := true, laidKinds := [.data, .pinned], laidTests := true, laidLooks := .later }
def ProofTellsCardSaid : Prop := Claim7.holds Tryz.pinned (.plain (OpenSpec.ofChange proofTellsSpec)) proofTellsCard

/-- THE TIED CARD OF 'permafrostlaw24.ProofBack'. -/
def proofBackCard : Claim7 := { stood := { row := proofBackRow, standIns := [], harness := (true, "8a283c2a28f1d792428680a1b6125128788aff83c09e8a73a3e1327531ef3264"), looks := false }, kinds := [], alts := [], laidByText := true, laidKinds := [.data, .pinned], laidTests := true, laidLooks := .later }
def ProofBackCardSaid : Prop := Claim7.holds Tryz.pinned (.plain (OpenSpec.ofChange proofBackSpec)) proofBackCard

/-- THE TIED CARD OF 'permafrostlaw24.ProofSizes'. -/
def proofSizesCard : Claim7 := { stood := { row := proofSizesRow, standIns := [], harness := (true, "8a283c2a28f1d792428680a1b6125128788aff83c09e8a73a3e1327531ef3264"), looks := false }, kinds := [], alts := [], laidByText := true, laidKinds := [.data, .pinned], laidTests := true, laidLooks := .later }
def ProofSizesCardSaid : Prop := Claim7.holds Tryz.pinned (.plain (OpenSpec.ofChange proofSizesSpec)) proofSizesCard

/-- THE SECOND FORM's CARD OF 'permafrostlaw24.ProofGrows'. -/
def proofGrowsUptoCard : Claim7 := { stood := { row := proofGrowsUptoRow, standIns := [], harness := (true, "8a283c2a28f1d792428680a1b6125128788aff83c09e8a73a3e1327531ef3264"), looks := false }, kinds := [], alts := [], laidByText := true, laidKinds := [.data, .pinned], laidTests := true, laidLooks := .later }
def ProofGrowsUptoCardSaid : Prop := Claim7.holds Tryz.pinned (.plain (OpenSpec.upto proofGrowsSpec)) proofGrowsUptoCard

/-- THE SECOND FORM's CARD OF 'permafrostlaw24.ProofApart'. -/
def proofApartUptoCard : Claim7 := { stood := { row := proofApartUptoRow, standIns := [], harness := (true, "8a283c2a28f1d792428680a1b6125128788aff83c09e8a73a3e1327531ef3264"), looks := false }, kinds := [], alts := [], laidByText := true, laidKinds := [.data, .pinned], laidTests := true, laidLooks := .later }
def ProofApartUptoCardSaid : Prop := Claim7.holds Tryz.pinned (.plain (OpenSpec.upto proofApartSpec)) proofApartUptoCard

/-- THE SECOND FORM's CARD OF 'permafrostlaw24.ProofNumbers'. -/
def proofNumbersUptoCard : Claim7 := { stood := { row := proofNumbersUptoRow, standIns := [], harness := (true, "8a283c2a28f1d792428680a1b6125128788aff83c09e8a73a3e1327531ef3264"), looks := false }, kinds := [], alts := [], laidByText := true, laidKinds := [.data, .pinned], laidTests := true, laidLooks := .later }
def ProofNumbersUptoCardSaid : Prop := Claim7.holds Tryz.pinned (.plain (OpenSpec.upto proofNumbersSpec)) proofNumbersUptoCard

/-- THE SECOND FORM's CARD OF 'permafrostlaw24.ProofTells'. -/
def proofTellsUptoCard : Claim7 := { stood := { row := proofTellsUptoRow, standIns := [], harness := (true, "8a283c2a28f1d792428680a1b6125128788aff83c09e8a73a3e1327531ef3264"), looks := false }, kinds := [], alts := [], laidByText := true, laidKinds := [.data, .pinned], laidTests := true, laidLooks := .later }
def ProofTellsUptoCardSaid : Prop := Claim7.holds Tryz.pinned (.plain (OpenSpec.upto proofTellsSpec)) proofTellsUptoCard

/-- THE SECOND FORM's CARD OF 'permafrostlaw24.ProofBack'. -/
def proofBackUptoCard : Claim7 := { stood := { row := proofBackUptoRow, standIns := [], harness := (true, "8a283c2a28f1d792428680a1b6125128788aff83c09e8a73a3e1327531ef3264"), looks := false }, kinds := [], alts := [], laidByText := true, laidKinds := [.data, .pinned], laidTests := true, laidLooks := .later }
def ProofBackUptoCardSaid : Prop := Claim7.holds Tryz.pinned (.plain (OpenSpec.upto proofBackSpec)) proofBackUptoCard

/-- THE SECOND FORM's CARD OF 'permafrostlaw24.ProofSizes'. -/
def proofSizesUptoCard : Claim7 := { stood := { row := proofSizesUptoRow, standIns := [], harness := (true, "8a283c2a28f1d792428680a1b6125128788aff83c09e8a73a3e1327531ef3264"), looks := false }, kinds := [], alts := [], laidByText := true, laidKinds := [.data, .pinned], laidTests := true, laidLooks := .later }
def ProofSizesUptoCardSaid : Prop := Claim7.holds Tryz.pinned (.plain (OpenSpec.upto proofSizesSpec)) proofSizesUptoCard
end Rows
end Go.Proofs.YtfegdgaanmcecaaGreatDoor
