/-
  DERIVED. GIVEN WITH THE SEED: THE CARDS: each row of YtajnkbfcnmajoaaGreatDoorRows.lean that lists a variable, with what it lists TIED to the program's text (the seventh form; the later family's looks); each row that meets fmt, with fmt's text TOLD by the authors' own Lean function (tested against real Go, not proved from fmt's source: count such statements apart). THE CARD IS WHAT COUNTS. Prove the row's statement (the work); the ties are given (YtajnkbfcnmajoaaGreatDoorTie.lean); close each card by the builder's one call (the guide's Derived/Test/ToyasCard.lean, 'card_holds'). Laid BY PROGRAM, IN A SANDBOX (cutbox-door.mjs). By AI agents, Wed Nov 11 2026. No macro, syntax, notation, axiom, sorry.
-/
import Derived.Test.YtajnkbfcnmajoaaGreatDoorRows
import GoSem.ClaimSeven
namespace Go.Proofs.YtajnkbfcnmajoaaGreatDoor
namespace Rows

/-- THE TIED CARD OF 'permafrostlaw21.LogNumbers'. -/
def logNumbersCard : Claim7 := { stood := { row := logNumbersRow, standIns := [], harness := (true, "92211af2ee78a51d9b985d37c02a503b54341d9a30c6d7db4343990ebfcc4aa9"), looks := false }, kinds := [], alts := [], laidByText := true, laidKinds := [.data, .pinned], laidTests := true, laidLooks := .later }
def LogNumbersCardSaid : Prop := Claim7.holds Tryz.pinned (.plain (OpenSpec.ofChange logNumbersSpec)) logNumbersCard

/-- THE TIED CARD OF 'permafrostlaw21.LogPlays'. -/
def logPlaysCard : Claim7 := { stood := { row := logPlaysRow, standIns := [], harness := (true, "92211af2ee78a51d9b985d37c02a503b54341d9a30c6d7db4343990ebfcc4aa9"), looks := false }, kinds := [], alts := [], laidByText := true, laidKinds := [.data, .pinned], laidTests := true, laidLooks := .later }
def LogPlaysCardSaid : Prop := Claim7.holds Tryz.pinned (.plain (OpenSpec.ofChange logPlaysSpec)) logPlaysCard

/-- THE TIED CARD OF 'permafrostlaw21.LogFull'. -/
def logFullCard : Claim7 := { stood := { row := logFullRow, standIns := [], harness := (true, "92211af2ee78a51d9b985d37c02a503b54341d9a30c6d7db4343990ebfcc4aa9"), looks := false }, kinds := [], alts := [], laidByText := true, laidKinds := [.data, .pinned], laidTests := true, laidLooks := .later }
def LogFullCardSaid : Prop := Claim7.holds Tryz.pinned (.plain (OpenSpec.ofChange logFullSpec)) logFullCard

/-- THE TIED CARD OF 'permafrostlaw21.LogOpens'. -/
def logOpensCard : Claim7 := { stood := { row := logOpensRow, standIns := [], harness := (true, "92211af2ee78a51d9b985d37c02a503b54341d9a30c6d7db4343990ebfcc4aa9"), looks := false }, kinds := [], alts := [], laidByText := true, laidKinds := [.data, .pinned], laidTests := true, laidLooks := .later }
def LogOpensCardSaid : Prop := Claim7.holds Tryz.pinned (.plain (OpenSpec.ofChange logOpensSpec)) logOpensCard

/-- THE TIED CARD OF 'permafrostlaw21.LogHeads'. -/
def logHeadsCard : Claim7 := { stood := { row := logHeadsRow, standIns := [], harness := (true, "92211af2ee78a51d9b985d37c02a503b54341d9a30c6d7db4343990ebfcc4aa9"), looks := false }, kinds := [], alts := [], laidByText := true, laidKinds := [.data, .pinned], laidTests := true, laidLooks := .later }
def LogHeadsCardSaid : Prop := Claim7.holds Tryz.pinned (.plain (OpenSpec.ofChange logHeadsSpec)) logHeadsCard

/-- THE TIED CARD OF 'permafrostlaw21.LogSurvives'. -/
def logSurvivesCard : Claim7 := { stood := { row := logSurvivesRow, standIns := [], harness := (true, "92211af2ee78a51d9b985d37c02a503b54341d9a30c6d7db4343990ebfcc4aa9"), looks := false }, kinds := [], alts := [], laidByText := true, laidKinds := [.data, .pinned], laidTests := true, laidLooks := .later }
def LogSurvivesCardSaid : Prop := Claim7.holds Tryz.pinned (.plain (OpenSpec.ofChange logSurvivesSpec)) logSurvivesCard

/-- THE SECOND FORM's CARD OF 'permafrostlaw21.LogNumbers'. -/
def logNumbersUptoCard : Claim7 := { stood := { row := logNumbersUptoRow, standIns := [], harness := (true, "92211af2ee78a51d9b985d37c02a503b54341d9a30c6d7db4343990ebfcc4aa9"), looks := false }, kinds := [], alts := [], laidByText := true, laidKinds := [.data, .pinned], laidTests := true, laidLooks := .later }
def LogNumbersUptoCardSaid : Prop := Claim7.holds Tryz.pinned (.plain (OpenSpec.upto logNumbersSpec)) logNumbersUptoCard

/-- THE SECOND FORM's CARD OF 'permafrostlaw21.LogPlays'. -/
def logPlaysUptoCard : Claim7 := { stood := { row := logPlaysUptoRow, standIns := [], harness := (true, "92211af2ee78a51d9b985d37c02a503b54341d9a30c6d7db4343990ebfcc4aa9"), looks := false }, kinds := [], alts := [], laidByText := true, laidKinds := [.data, .pinned], laidTests := true, laidLooks := .later }
def LogPlaysUptoCardSaid : Prop := Claim7.holds Tryz.pinned (.plain (OpenSpec.upto logPlaysSpec)) logPlaysUptoCard

/-- THE SECOND FORM's CARD OF 'permafrostlaw21.LogFull'. -/
def logFullUptoCard : Claim7 := { stood := { row := logFullUptoRow, standIns := [], harness := (true, "92211af2ee78a51d9b985d37c02a503b54341d9a30c6d7db4343990ebfcc4aa9"), looks := false }, kinds := [], alts := [], laidByText := true, laidKinds := [.data, .pinned], laidTests := true, laidLooks := .later }
def LogFullUptoCardSaid : Prop := Claim7.holds Tryz.pinned (.plain (OpenSpec.upto logFullSpec)) logFullUptoCard

/-- THE SECOND FORM's CARD OF 'permafrostlaw21.LogOpens'. -/
def logOpensUptoCard : Claim7 := { stood := { row := logOpensUptoRow, standIns := [], harness := (true, "92211af2ee78a51d9b985d37c02a503b54341d9a30c6d7db4343990ebfcc4aa9"), looks := false }, kinds := [], alts := [], laidByText := true, laidKinds := [.data, .pinned], laidTests := true, laidLooks := .later }
def LogOpensUptoCardSaid : Prop := Claim7.holds Tryz.pinned (.plain (OpenSpec.upto logOpensSpec)) logOpensUptoCard

/-- THE SECOND FORM's CARD OF 'permafrostlaw21.LogHeads'. -/
def logHeadsUptoCard : Claim7 := { stood := { row := logHeadsUptoRow, standIns := [], harness := (true, "92211af2ee78a51d9b985d37c02a503b54341d9a30c6d7db4343990ebfcc4aa9"), looks := false }, kinds := [], alts := [], laidByText := true, laidKinds := [.data, .pinned], laidTests := true, laidLooks := .later }
def LogHeadsUptoCardSaid : Prop := Claim7.holds Tryz.pinned (.plain (OpenSpec.upto logHeadsSpec)) logHeadsUptoCard

/-- THE SECOND FORM's CARD OF 'permafrostlaw21.LogSurvives'. -/
def logSurvivesUptoCard : Claim7 := { stood := { row := logSurvivesUptoRow, standIns := [], harness := (true, "92211af2ee78a51d9b985d37c02a503b54341d9a30c6d7db4343990ebfcc4aa9"), looks := false }, kinds := [], alts := [], laidByText := true, laidKinds := [.data, .pinned], laidTests := true, laidLooks := .later }
def LogSurvivesUptoCardSaid : Prop := Claim7.holds Tryz.pinned (.plain (OpenSpec.upto logSurvivesSpec)) logSurvivesUptoCard
end Rows
end Go.Proofs.YtajnkbfcnmajoaaGreatDoor
