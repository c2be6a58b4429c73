/-
  NARROWER THAN 'FOR EVERY INPUT', by the rows' own cells (each row's printed sentence says how): ProofGrows: laid · ProofApart: laid · ProofNumbers: laid · ProofTells: laid · ProofBack: laid · ProofSizes: laid.
  DERIVED. THE GIVEN ROWS OF THIS SEAT. 6 by the template 'for every input the law returns true; each argument reads behind the call as it read before'; 0 by the template 'total and deterministic' (their statements: YtfegdgaanmcecaaGreatDoorTotals.lean).
  GIVEN WITH THE SEED: the statements are not yours to turn. If you find one false, say at which input.
  Laid BY PROGRAM, IN A SANDBOX (cutbox-rows.mjs): the forced cells as the released guide's own fill.sh prints them over the translation 45472d02c9613d5e… (all of the seat's roots in one cut). By AI agents, Wed Nov 11 2026. No macro, syntax, notation, axiom, sorry.
-/
import Derived.Test.YtfegdgaanmcecaaGreatDoorChecked
import GoSem.PinnedTables
import GoSem.Claim
import GoSem.ClaimJoined
import GoSem.ClaimMapViews
import Derived.JoinedTies
import Derived.KernelRfl
namespace Go.Proofs.YtfegdgaanmcecaaGreatDoor
/- THE CELL 'sum', in the pinned program and in every row, IS THE sha256 OF THE DUMP (.gsa) THAT YtfegdgaanmcecaaGreatDoorProg.lean LOADS. Nothing in Lean hashes anything: it is a label: what it is worth is what the hold of that sum in a sandbox is worth. -/
noncomputable def Tryz.pinned : Pinned := { name := "ytfegdgaanmcecaagreatdoor", sum := "45472d02c9613d5ea7f97062c8d133ba2da036bc034392addfb98e13994c000d", checked := Tryz.checked }
namespace Rows
def none {H : Type} : Left H := { results := [], args := [] }

/- WHAT THE LISTED PACKAGE-LEVEL VARIABLES READ AS WHEN THE CALL BEGINS. Each datum BY PROGRAM (the guide's laid-datum.mjs) off the statement by which the dump's own 'gosem.cut.vars' lays the variable. In a bare row this is a premise. The card (YtfegdgaanmcecaaGreatDoorCards.lean) ties it to the program's text. -/
def laid_unicode_utf8_acceptRanges {H : Type} : DataW H := .agg [.agg [.lit (.int .u8 128), .lit (.int .u8 191)], .agg [.lit (.int .u8 160), .lit (.int .u8 191)], .agg [.lit (.int .u8 128), .lit (.int .u8 159)], .agg [.lit (.int .u8 144), .lit (.int .u8 191)], .agg [.lit (.int .u8 128), .lit (.int .u8 143)], .agg [.lit (.int .u8 0), .lit (.int .u8 0)], .agg [.lit (.int .u8 0), .lit (.int .u8 0)], .agg [.lit (.int .u8 0), .lit (.int .u8 0)], .agg [.lit (.int .u8 0), .lit (.int .u8 0)], .agg [.lit (.int .u8 0), .lit (.int .u8 0)], .agg [.lit (.int .u8 0), .lit (.int .u8 0)], .agg [.lit (.int .u8 0), .lit (.int .u8 0)], .agg [.lit (.int .u8 0), .lit (.int .u8 0)], .agg [.lit (.int .u8 0), .lit (.int .u8 0)], .agg [.lit (.int .u8 0), .lit (.int .u8 0)], .agg [.lit (.int .u8 0), .lit (.int .u8 0)]]
/-- One of Go's own tables, pinned by name: the form's constant. -/
def laid_unicode_utf8_first : DataW Unit := Go.Pinned.utf8First

/-- 'permafrostlaw24.ProofGrows': WHATEVER THE INPUT: true; the input reads as it did. -/
def proofGrowsSpec : ChangeSpec := { name := "proofGrows", fn := fun _ => fun
  | [d1, d2, d3] => { results := [.lit (.bool true)], args := [d1, d2, d3] }
  | _ => none }
def proofGrowsRow : OpenClaim := { program := "ytfegdgaanmcecaagreatdoor", sum := "45472d02c9613d5ea7f97062c8d133ba2da036bc034392addfb98e13994c000d", func := "permafrost/permafrostlaw24.ProofGrows", spec := "proofGrows", unfollowed := true, recurses := true, named := ["unicode/utf8.first", "unicode/utf8.acceptRanges"], apart := false, laid := [("unicode/utf8.acceptRanges", laid_unicode_utf8_acceptRanges), ("unicode/utf8.first", laid_unicode_utf8_first)] }
def ProofGrowsSaid : Prop := proofGrowsRow.holds Tryz.pinned (OpenSpec.ofChange proofGrowsSpec)

/-- ITS FALSE NEIGHBOUR: 'it returns false'. Refute it at one input. -/
def proofGrowsWrong : ChangeSpec := { name := "proofGrows", fn := fun _ => fun
  | [d1, d2, d3] => { results := [.lit (.bool false)], args := [d1, d2, d3] }
  | _ => none }
def ProofGrowsWrongFalsely : Prop := proofGrowsRow.holds Tryz.pinned (OpenSpec.ofChange proofGrowsWrong)

/-- 'permafrostlaw24.ProofApart': WHATEVER THE INPUT: true; the input reads as it did. -/
def proofApartSpec : ChangeSpec := { name := "proofApart", fn := fun _ => fun
  | [d1, d2, d3] => { results := [.lit (.bool true)], args := [d1, d2, d3] }
  | _ => none }
def proofApartRow : OpenClaim := { program := "ytfegdgaanmcecaagreatdoor", sum := "45472d02c9613d5ea7f97062c8d133ba2da036bc034392addfb98e13994c000d", func := "permafrost/permafrostlaw24.ProofApart", spec := "proofApart", unfollowed := true, recurses := true, named := ["unicode/utf8.first", "unicode/utf8.acceptRanges"], apart := false, laid := [("unicode/utf8.acceptRanges", laid_unicode_utf8_acceptRanges), ("unicode/utf8.first", laid_unicode_utf8_first)] }
def ProofApartSaid : Prop := proofApartRow.holds Tryz.pinned (OpenSpec.ofChange proofApartSpec)

/-- ITS FALSE NEIGHBOUR: 'it returns false'. Refute it at one input. -/
def proofApartWrong : ChangeSpec := { name := "proofApart", fn := fun _ => fun
  | [d1, d2, d3] => { results := [.lit (.bool false)], args := [d1, d2, d3] }
  | _ => none }
def ProofApartWrongFalsely : Prop := proofApartRow.holds Tryz.pinned (OpenSpec.ofChange proofApartWrong)

/-- 'permafrostlaw24.ProofNumbers': WHATEVER THE INPUT: true; the input reads as it did. -/
def proofNumbersSpec : ChangeSpec := { name := "proofNumbers", fn := fun _ => fun
  | [] => { results := [.lit (.bool true)], args := [] }
  | _ => none }
def proofNumbersRow : OpenClaim := { program := "ytfegdgaanmcecaagreatdoor", sum := "45472d02c9613d5ea7f97062c8d133ba2da036bc034392addfb98e13994c000d", func := "permafrost/permafrostlaw24.ProofNumbers", spec := "proofNumbers", unfollowed := true, recurses := true, named := ["unicode/utf8.first", "unicode/utf8.acceptRanges"], apart := false, laid := [("unicode/utf8.acceptRanges", laid_unicode_utf8_acceptRanges), ("unicode/utf8.first", laid_unicode_utf8_first)] }
def ProofNumbersSaid : Prop := proofNumbersRow.holds Tryz.pinned (OpenSpec.ofChange proofNumbersSpec)

/-- ITS FALSE NEIGHBOUR: 'it returns false'. Refute it at one input. -/
def proofNumbersWrong : ChangeSpec := { name := "proofNumbers", fn := fun _ => fun
  | [] => { results := [.lit (.bool false)], args := [] }
  | _ => none }
def ProofNumbersWrongFalsely : Prop := proofNumbersRow.holds Tryz.pinned (OpenSpec.ofChange proofNumbersWrong)

/-- 'permafrostlaw24.ProofTells': WHATEVER THE INPUT: true; the input reads as it did. -/
def proofTellsSpec : ChangeSpec := { name := "proofTells", fn := fun _ => fun
  | [d1, d2, d3, d4, d5, d6] => { results := [.lit (.bool true)], args := [d1, d2, d3, d4, d5, d6] }
  | _ => none }
def proofTellsRow : OpenClaim := { program := "ytfegdgaanmcecaagreatdoor", sum := "45472d02c9613d5ea7f97062c8d133ba2da036bc034392addfb98e13994c000d", func := "permafrost/permafrostlaw24.ProofTells", spec := "proofTells", unfollowed := true, recurses := true, named := ["unicode/utf8.first", "unicode/utf8.acceptRanges"], apart := false, laid := [("unicode/utf8.acceptRanges", laid_unicode_utf8_acceptRanges), ("unicode/utf8.first", laid_unicode_utf8_first)] }
def ProofTellsSaid : Prop := proofTellsRow.holds Tryz.pinned (OpenSpec.ofChange proofTellsSpec)

/-- ITS FALSE NEIGHBOUR: 'it returns false'. Refute it at one input. -/
def proofTellsWrong : ChangeSpec := { name := "proofTells", fn := fun _ => fun
  | [d1, d2, d3, d4, d5, d6] => { results := [.lit (.bool false)], args := [d1, d2, d3, d4, d5, d6] }
  | _ => none }
def ProofTellsWrongFalsely : Prop := proofTellsRow.holds Tryz.pinned (OpenSpec.ofChange proofTellsWrong)

/-- 'permafrostlaw24.ProofBack': WHATEVER THE INPUT: true; the input reads as it did. -/
def proofBackSpec : ChangeSpec := { name := "proofBack", fn := fun _ => fun
  | [d1, d2, d3, d4] => { results := [.lit (.bool true)], args := [d1, d2, d3, d4] }
  | _ => none }
def proofBackRow : OpenClaim := { program := "ytfegdgaanmcecaagreatdoor", sum := "45472d02c9613d5ea7f97062c8d133ba2da036bc034392addfb98e13994c000d", func := "permafrost/permafrostlaw24.ProofBack", spec := "proofBack", unfollowed := true, recurses := true, named := ["unicode/utf8.first", "unicode/utf8.acceptRanges"], apart := false, laid := [("unicode/utf8.acceptRanges", laid_unicode_utf8_acceptRanges), ("unicode/utf8.first", laid_unicode_utf8_first)] }
def ProofBackSaid : Prop := proofBackRow.holds Tryz.pinned (OpenSpec.ofChange proofBackSpec)

/-- ITS FALSE NEIGHBOUR: 'it returns false'. Refute it at one input. -/
def proofBackWrong : ChangeSpec := { name := "proofBack", fn := fun _ => fun
  | [d1, d2, d3, d4] => { results := [.lit (.bool false)], args := [d1, d2, d3, d4] }
  | _ => none }
def ProofBackWrongFalsely : Prop := proofBackRow.holds Tryz.pinned (OpenSpec.ofChange proofBackWrong)

/-- 'permafrostlaw24.ProofSizes': WHATEVER THE INPUT: true; the input reads as it did. -/
def proofSizesSpec : ChangeSpec := { name := "proofSizes", fn := fun _ => fun
  | [d1, d2, d3, d4] => { results := [.lit (.bool true)], args := [d1, d2, d3, d4] }
  | _ => none }
def proofSizesRow : OpenClaim := { program := "ytfegdgaanmcecaagreatdoor", sum := "45472d02c9613d5ea7f97062c8d133ba2da036bc034392addfb98e13994c000d", func := "permafrost/permafrostlaw24.ProofSizes", spec := "proofSizes", unfollowed := true, recurses := true, named := ["unicode/utf8.first", "unicode/utf8.acceptRanges"], apart := false, laid := [("unicode/utf8.acceptRanges", laid_unicode_utf8_acceptRanges), ("unicode/utf8.first", laid_unicode_utf8_first)] }
def ProofSizesSaid : Prop := proofSizesRow.holds Tryz.pinned (OpenSpec.ofChange proofSizesSpec)

/-- ITS FALSE NEIGHBOUR: 'it returns false'. Refute it at one input. -/
def proofSizesWrong : ChangeSpec := { name := "proofSizes", fn := fun _ => fun
  | [d1, d2, d3, d4] => { results := [.lit (.bool false)], args := [d1, d2, d3, d4] }
  | _ => none }
def ProofSizesWrongFalsely : Prop := proofSizesRow.holds Tryz.pinned (OpenSpec.ofChange proofSizesWrong)

/- THE SECOND FORM. 'bulk': how many values and letters a reading holds, each counted each time it is reached (what is shared counts as often as it is met; a slice's spare places count too). A statement '..UptoSaid' is the law's where the arguments, and the package variables that the reading takes, are together of bulk at most 1048576: NARROWER than '..Said'. Prove '..Said' where nothing that the law and all that it calls make is longer than what came in: it says more and counts as full. Else prove '..UptoSaid'. A law counts once. -/
mutual
def uptoBulk {H : Type} : DataW H → Nat
  | .lit (.string bytes) => bytes.length + 1
  | .lit _ => 1
  | .nil => 1
  | .ptr d => uptoBulk d + 1
  | .slice elems spare => uptoBulkAll elems + uptoBulkAll spare + 1
  | .agg parts => uptoBulkAll parts + 1
  | .iface _ d => uptoBulk d + 1
  | .map entries => uptoBulkEntries entries + 1
  | .held _ => 1
def uptoBulkAll {H : Type} : List (DataW H) → Nat
  | [] => 0
  | d :: r => uptoBulk d + uptoBulkAll r
def uptoBulkEntries {H : Type} : List (Lit × DataW H) → Nat
  | [] => 0
  | x :: r => uptoBulkEntry x + uptoBulkEntries r
def uptoBulkEntry {H : Type} : Lit × DataW H → Nat
  | (.string bytes, d) => bytes.length + uptoBulk d + 1
  | (_, d) => uptoBulk d + 1
 end
def uptoSmall : (H : Type) → List (DataW H) → Bool := fun _ ds => decide (uptoBulkAll ds ≤ 1048576)
def OpenSpec.upto (s : _root_.Go.ChangeSpec) : _root_.Go.OpenSpec := { _root_.Go.OpenSpec.ofChange s with cond := some uptoSmall }

/-- 'permafrostlaw24.ProofGrows', WHERE WHAT IT READS IS OF BULK AT MOST 1048576: true; the input reads as it did. -/
def proofGrowsUptoRow : OpenClaim := { program := "ytfegdgaanmcecaagreatdoor", sum := "45472d02c9613d5ea7f97062c8d133ba2da036bc034392addfb98e13994c000d", func := "permafrost/permafrostlaw24.ProofGrows", spec := "proofGrows", unfollowed := true, recurses := true, named := ["unicode/utf8.first", "unicode/utf8.acceptRanges"], apart := false, laid := [("unicode/utf8.acceptRanges", laid_unicode_utf8_acceptRanges), ("unicode/utf8.first", laid_unicode_utf8_first)], narrowed := true }
def ProofGrowsUptoSaid : Prop := proofGrowsUptoRow.holds Tryz.pinned (OpenSpec.upto proofGrowsSpec)

/-- 'permafrostlaw24.ProofApart', WHERE WHAT IT READS IS OF BULK AT MOST 1048576: true; the input reads as it did. -/
def proofApartUptoRow : OpenClaim := { program := "ytfegdgaanmcecaagreatdoor", sum := "45472d02c9613d5ea7f97062c8d133ba2da036bc034392addfb98e13994c000d", func := "permafrost/permafrostlaw24.ProofApart", spec := "proofApart", unfollowed := true, recurses := true, named := ["unicode/utf8.first", "unicode/utf8.acceptRanges"], apart := false, laid := [("unicode/utf8.acceptRanges", laid_unicode_utf8_acceptRanges), ("unicode/utf8.first", laid_unicode_utf8_first)], narrowed := true }
def ProofApartUptoSaid : Prop := proofApartUptoRow.holds Tryz.pinned (OpenSpec.upto proofApartSpec)

/-- 'permafrostlaw24.ProofNumbers', WHERE WHAT IT READS IS OF BULK AT MOST 1048576: true; the input reads as it did. -/
def proofNumbersUptoRow : OpenClaim := { program := "ytfegdgaanmcecaagreatdoor", sum := "45472d02c9613d5ea7f97062c8d133ba2da036bc034392addfb98e13994c000d", func := "permafrost/permafrostlaw24.ProofNumbers", spec := "proofNumbers", unfollowed := true, recurses := true, named := ["unicode/utf8.first", "unicode/utf8.acceptRanges"], apart := false, laid := [("unicode/utf8.acceptRanges", laid_unicode_utf8_acceptRanges), ("unicode/utf8.first", laid_unicode_utf8_first)], narrowed := true }
def ProofNumbersUptoSaid : Prop := proofNumbersUptoRow.holds Tryz.pinned (OpenSpec.upto proofNumbersSpec)

/-- 'permafrostlaw24.ProofTells', WHERE WHAT IT READS IS OF BULK AT MOST 1048576: true; the input reads as it did. -/
def proofTellsUptoRow : OpenClaim := { program := "ytfegdgaanmcecaagreatdoor", sum := "45472d02c9613d5ea7f97062c8d133ba2da036bc034392addfb98e13994c000d", func := "permafrost/permafrostlaw24.ProofTells", spec := "proofTells", unfollowed := true, recurses := true, named := ["unicode/utf8.first", "unicode/utf8.acceptRanges"], apart := false, laid := [("unicode/utf8.acceptRanges", laid_unicode_utf8_acceptRanges), ("unicode/utf8.first", laid_unicode_utf8_first)], narrowed := true }
def ProofTellsUptoSaid : Prop := proofTellsUptoRow.holds Tryz.pinned (OpenSpec.upto proofTellsSpec)

/-- 'permafrostlaw24.ProofBack', WHERE WHAT IT READS IS OF BULK AT MOST 1048576: true; the input reads as it did. -/
def proofBackUptoRow : OpenClaim := { program := "ytfegdgaanmcecaagreatdoor", sum := "45472d02c9613d5ea7f97062c8d133ba2da036bc034392addfb98e13994c000d", func := "permafrost/permafrostlaw24.ProofBack", spec := "proofBack", unfollowed := true, recurses := true, named := ["unicode/utf8.first", "unicode/utf8.acceptRanges"], apart := false, laid := [("unicode/utf8.acceptRanges", laid_unicode_utf8_acceptRanges), ("unicode/utf8.first", laid_unicode_utf8_first)], narrowed := true }
def ProofBackUptoSaid : Prop := proofBackUptoRow.holds Tryz.pinned (OpenSpec.upto proofBackSpec)

/-- 'permafrostlaw24.ProofSizes', WHERE WHAT IT READS IS OF BULK AT MOST 1048576: true; the input reads as it did. -/
def proofSizesUptoRow : OpenClaim := { program := "ytfegdgaanmcecaagreatdoor", sum := "45472d02c9613d5ea7f97062c8d133ba2da036bc034392addfb98e13994c000d", func := "permafrost/permafrostlaw24.ProofSizes", spec := "proofSizes", unfollowed := true, recurses := true, named := ["unicode/utf8.first", "unicode/utf8.acceptRanges"], apart := false, laid := [("unicode/utf8.acceptRanges", laid_unicode_utf8_acceptRanges), ("unicode/utf8.first", laid_unicode_utf8_first)], narrowed := true }
def ProofSizesUptoSaid : Prop := proofSizesUptoRow.holds Tryz.pinned (OpenSpec.upto proofSizesSpec)

end Rows
end Go.Proofs.YtfegdgaanmcecaaGreatDoor
