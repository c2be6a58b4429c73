/-
  NARROWER THAN 'FOR EVERY INPUT', by the rows' own cells (each row's printed sentence says how): MountFormats: laid · MountMarks: laid · MountAgain: laid · MountAnchored: laid · MountFinds: laid · MountNumbers: laid.
  DERIVED. THE GIVEN ROWS OF THIS SEAT. 6 by the template 'for every input the law returns true; each argument reads behind the call as it read before'; 0 by the template 'total and deterministic' (their statements: YtijjhfkgbmckkaaGreatDoorTotals.lean).
  GIVEN WITH THE SEED: the statements are not yours to turn. If you find one false, say at which input.
  Laid BY PROGRAM, IN A SANDBOX (cutbox-rows.mjs): the forced cells as the released guide's own fill.sh prints them over the translation 14f8b045181ee223… (all of the seat's roots in one cut). By AI agents, Wed Nov 11 2026. No macro, syntax, notation, axiom, sorry.
-/
import Derived.Test.YtijjhfkgbmckkaaGreatDoorChecked
import GoSem.PinnedTables
import GoSem.Claim
import GoSem.ClaimJoined
import GoSem.ClaimMapViews
import Derived.JoinedTies
import Derived.KernelRfl
namespace Go.Proofs.YtijjhfkgbmckkaaGreatDoor
/- THE CELL 'sum', in the pinned program and in every row, IS THE sha256 OF THE DUMP (.gsa) THAT YtijjhfkgbmckkaaGreatDoorProg.lean LOADS. Nothing in Lean hashes anything: it is a label: what it is worth is what the hold of that sum in a sandbox is worth. -/
noncomputable def Tryz.pinned : Pinned := { name := "ytijjhfkgbmckkaagreatdoor", sum := "14f8b045181ee2234c1eea4cde0c2e19b3685bd75b107de18663c5cac3fb8906", checked := Tryz.checked }
namespace Rows
def none {H : Type} : Left H := { results := [], args := [] }

/- WHAT THE LISTED PACKAGE-LEVEL VARIABLES READ AS WHEN THE CALL BEGINS. Each datum BY PROGRAM (the guide's laid-datum.mjs) off the statement by which the dump's own 'gosem.cut.vars' lays the variable. In a bare row this is a premise. The card (YtijjhfkgbmckkaaGreatDoorCards.lean) ties it to the program's text. -/
def laid_unicode_utf8_acceptRanges {H : Type} : DataW H := .agg [.agg [.lit (.int .u8 128), .lit (.int .u8 191)], .agg [.lit (.int .u8 160), .lit (.int .u8 191)], .agg [.lit (.int .u8 128), .lit (.int .u8 159)], .agg [.lit (.int .u8 144), .lit (.int .u8 191)], .agg [.lit (.int .u8 128), .lit (.int .u8 143)], .agg [.lit (.int .u8 0), .lit (.int .u8 0)], .agg [.lit (.int .u8 0), .lit (.int .u8 0)], .agg [.lit (.int .u8 0), .lit (.int .u8 0)], .agg [.lit (.int .u8 0), .lit (.int .u8 0)], .agg [.lit (.int .u8 0), .lit (.int .u8 0)], .agg [.lit (.int .u8 0), .lit (.int .u8 0)], .agg [.lit (.int .u8 0), .lit (.int .u8 0)], .agg [.lit (.int .u8 0), .lit (.int .u8 0)], .agg [.lit (.int .u8 0), .lit (.int .u8 0)], .agg [.lit (.int .u8 0), .lit (.int .u8 0)], .agg [.lit (.int .u8 0), .lit (.int .u8 0)]]
/-- One of Go's own tables, pinned by name: the form's constant. -/
def laid_unicode_utf8_first : DataW Unit := Go.Pinned.utf8First

/-- 'permafrostlaw22.MountFormats': WHATEVER THE INPUT: true; the input reads as it did. -/
def mountFormatsSpec : ChangeSpec := { name := "mountFormats", fn := fun _ => fun
  | [d1, d2, d3] => { results := [.lit (.bool true)], args := [d1, d2, d3] }
  | _ => none }
def mountFormatsRow : OpenClaim := { program := "ytijjhfkgbmckkaagreatdoor", sum := "14f8b045181ee2234c1eea4cde0c2e19b3685bd75b107de18663c5cac3fb8906", func := "permafrost/permafrostlaw22.MountFormats", spec := "mountFormats", inPlace := ["maps.clone", "internal/bytealg.CountString", "internal/bytealg.IndexByteString", "internal/bytealg.IndexString"], unfollowed := true, recurses := true, named := ["unicode/utf8.first", "unicode/utf8.acceptRanges", "internal/bytealg.MaxLen"], apart := false, laid := [("unicode/utf8.acceptRanges", laid_unicode_utf8_acceptRanges), ("unicode/utf8.first", laid_unicode_utf8_first)] }
def MountFormatsSaid : Prop := mountFormatsRow.holds Tryz.pinned (OpenSpec.ofChange mountFormatsSpec)

/-- ITS FALSE NEIGHBOUR: 'it returns false'. Refute it at one input. -/
def mountFormatsWrong : ChangeSpec := { name := "mountFormats", fn := fun _ => fun
  | [d1, d2, d3] => { results := [.lit (.bool false)], args := [d1, d2, d3] }
  | _ => none }
def MountFormatsWrongFalsely : Prop := mountFormatsRow.holds Tryz.pinned (OpenSpec.ofChange mountFormatsWrong)

/-- 'permafrostlaw22.MountMarks': WHATEVER THE INPUT: true; the input reads as it did. -/
def mountMarksSpec : ChangeSpec := { name := "mountMarks", fn := fun _ => fun
  | [d1, d2] => { results := [.lit (.bool true)], args := [d1, d2] }
  | _ => none }
def mountMarksRow : OpenClaim := { program := "ytijjhfkgbmckkaagreatdoor", sum := "14f8b045181ee2234c1eea4cde0c2e19b3685bd75b107de18663c5cac3fb8906", func := "permafrost/permafrostlaw22.MountMarks", spec := "mountMarks", inPlace := ["maps.clone", "internal/bytealg.CountString", "internal/bytealg.IndexByteString", "internal/bytealg.IndexString"], unfollowed := true, recurses := true, named := ["unicode/utf8.first", "unicode/utf8.acceptRanges", "internal/bytealg.MaxLen"], apart := false, laid := [("unicode/utf8.acceptRanges", laid_unicode_utf8_acceptRanges), ("unicode/utf8.first", laid_unicode_utf8_first)] }
def MountMarksSaid : Prop := mountMarksRow.holds Tryz.pinned (OpenSpec.ofChange mountMarksSpec)

/-- ITS FALSE NEIGHBOUR: 'it returns false'. Refute it at one input. -/
def mountMarksWrong : ChangeSpec := { name := "mountMarks", fn := fun _ => fun
  | [d1, d2] => { results := [.lit (.bool false)], args := [d1, d2] }
  | _ => none }
def MountMarksWrongFalsely : Prop := mountMarksRow.holds Tryz.pinned (OpenSpec.ofChange mountMarksWrong)

/-- 'permafrostlaw22.MountAgain': WHATEVER THE INPUT: true; the input reads as it did. -/
def mountAgainSpec : ChangeSpec := { name := "mountAgain", fn := fun _ => fun
  | [d1, d2] => { results := [.lit (.bool true)], args := [d1, d2] }
  | _ => none }
def mountAgainRow : OpenClaim := { program := "ytijjhfkgbmckkaagreatdoor", sum := "14f8b045181ee2234c1eea4cde0c2e19b3685bd75b107de18663c5cac3fb8906", func := "permafrost/permafrostlaw22.MountAgain", spec := "mountAgain", inPlace := ["maps.clone", "internal/bytealg.CountString", "internal/bytealg.IndexByteString", "internal/bytealg.IndexString"], unfollowed := true, recurses := true, named := ["unicode/utf8.first", "unicode/utf8.acceptRanges", "internal/bytealg.MaxLen"], apart := false, laid := [("unicode/utf8.acceptRanges", laid_unicode_utf8_acceptRanges), ("unicode/utf8.first", laid_unicode_utf8_first)] }
def MountAgainSaid : Prop := mountAgainRow.holds Tryz.pinned (OpenSpec.ofChange mountAgainSpec)

/-- ITS FALSE NEIGHBOUR: 'it returns false'. Refute it at one input. -/
def mountAgainWrong : ChangeSpec := { name := "mountAgain", fn := fun _ => fun
  | [d1, d2] => { results := [.lit (.bool false)], args := [d1, d2] }
  | _ => none }
def MountAgainWrongFalsely : Prop := mountAgainRow.holds Tryz.pinned (OpenSpec.ofChange mountAgainWrong)

/-- 'permafrostlaw22.MountAnchored': WHATEVER THE INPUT: true; the input reads as it did. -/
def mountAnchoredSpec : ChangeSpec := { name := "mountAnchored", fn := fun _ => fun
  | [d1, d2, d3, d4, d5] => { results := [.lit (.bool true)], args := [d1, d2, d3, d4, d5] }
  | _ => none }
def mountAnchoredRow : OpenClaim := { program := "ytijjhfkgbmckkaagreatdoor", sum := "14f8b045181ee2234c1eea4cde0c2e19b3685bd75b107de18663c5cac3fb8906", func := "permafrost/permafrostlaw22.MountAnchored", spec := "mountAnchored", inPlace := ["maps.clone", "internal/bytealg.CountString", "internal/bytealg.IndexByteString", "internal/bytealg.IndexString"], unfollowed := true, recurses := true, named := ["unicode/utf8.first", "unicode/utf8.acceptRanges", "internal/bytealg.MaxLen"], apart := false, laid := [("unicode/utf8.acceptRanges", laid_unicode_utf8_acceptRanges), ("unicode/utf8.first", laid_unicode_utf8_first)] }
def MountAnchoredSaid : Prop := mountAnchoredRow.holds Tryz.pinned (OpenSpec.ofChange mountAnchoredSpec)

/-- ITS FALSE NEIGHBOUR: 'it returns false'. Refute it at one input. -/
def mountAnchoredWrong : ChangeSpec := { name := "mountAnchored", fn := fun _ => fun
  | [d1, d2, d3, d4, d5] => { results := [.lit (.bool false)], args := [d1, d2, d3, d4, d5] }
  | _ => none }
def MountAnchoredWrongFalsely : Prop := mountAnchoredRow.holds Tryz.pinned (OpenSpec.ofChange mountAnchoredWrong)

/-- 'permafrostlaw22.MountFinds': WHATEVER THE INPUT: true; the input reads as it did. -/
def mountFindsSpec : ChangeSpec := { name := "mountFinds", fn := fun _ => fun
  | [d1, d2] => { results := [.lit (.bool true)], args := [d1, d2] }
  | _ => none }
def mountFindsRow : OpenClaim := { program := "ytijjhfkgbmckkaagreatdoor", sum := "14f8b045181ee2234c1eea4cde0c2e19b3685bd75b107de18663c5cac3fb8906", func := "permafrost/permafrostlaw22.MountFinds", spec := "mountFinds", inPlace := ["maps.clone", "internal/bytealg.CountString", "internal/bytealg.IndexByteString", "internal/bytealg.IndexString"], unfollowed := true, recurses := true, named := ["unicode/utf8.first", "unicode/utf8.acceptRanges", "internal/bytealg.MaxLen"], apart := false, laid := [("unicode/utf8.acceptRanges", laid_unicode_utf8_acceptRanges), ("unicode/utf8.first", laid_unicode_utf8_first)] }
def MountFindsSaid : Prop := mountFindsRow.holds Tryz.pinned (OpenSpec.ofChange mountFindsSpec)

/-- ITS FALSE NEIGHBOUR: 'it returns false'. Refute it at one input. -/
def mountFindsWrong : ChangeSpec := { name := "mountFinds", fn := fun _ => fun
  | [d1, d2] => { results := [.lit (.bool false)], args := [d1, d2] }
  | _ => none }
def MountFindsWrongFalsely : Prop := mountFindsRow.holds Tryz.pinned (OpenSpec.ofChange mountFindsWrong)

/-- 'permafrostlaw22.MountNumbers': WHATEVER THE INPUT: true; the input reads as it did. -/
def mountNumbersSpec : ChangeSpec := { name := "mountNumbers", fn := fun _ => fun
  | [] => { results := [.lit (.bool true)], args := [] }
  | _ => none }
def mountNumbersRow : OpenClaim := { program := "ytijjhfkgbmckkaagreatdoor", sum := "14f8b045181ee2234c1eea4cde0c2e19b3685bd75b107de18663c5cac3fb8906", func := "permafrost/permafrostlaw22.MountNumbers", spec := "mountNumbers", inPlace := ["maps.clone", "internal/bytealg.CountString", "internal/bytealg.IndexByteString", "internal/bytealg.IndexString"], unfollowed := true, recurses := true, named := ["unicode/utf8.first", "unicode/utf8.acceptRanges", "internal/bytealg.MaxLen"], apart := false, laid := [("unicode/utf8.acceptRanges", laid_unicode_utf8_acceptRanges), ("unicode/utf8.first", laid_unicode_utf8_first)] }
def MountNumbersSaid : Prop := mountNumbersRow.holds Tryz.pinned (OpenSpec.ofChange mountNumbersSpec)

/-- ITS FALSE NEIGHBOUR: 'it returns false'. Refute it at one input. -/
def mountNumbersWrong : ChangeSpec := { name := "mountNumbers", fn := fun _ => fun
  | [] => { results := [.lit (.bool false)], args := [] }
  | _ => none }
def MountNumbersWrongFalsely : Prop := mountNumbersRow.holds Tryz.pinned (OpenSpec.ofChange mountNumbersWrong)

/- THE SECOND FORM. 'bulk': how many values and letters a reading holds, each counted each time it is reached (what is shared counts as often as it is met; a slice's spare places count too). A statement '..UptoSaid' is the law's where the arguments, and the package variables that the reading takes, are together of bulk at most 1048576: NARROWER than '..Said'. Prove '..Said' where nothing that the law and all that it calls make is longer than what came in: it says more and counts as full. Else prove '..UptoSaid'. A law counts once. -/
mutual
def uptoBulk {H : Type} : DataW H → Nat
  | .lit (.string bytes) => bytes.length + 1
  | .lit _ => 1
  | .nil => 1
  | .ptr d => uptoBulk d + 1
  | .slice elems spare => uptoBulkAll elems + uptoBulkAll spare + 1
  | .agg parts => uptoBulkAll parts + 1
  | .iface _ d => uptoBulk d + 1
  | .map entries => uptoBulkEntries entries + 1
  | .held _ => 1
def uptoBulkAll {H : Type} : List (DataW H) → Nat
  | [] => 0
  | d :: r => uptoBulk d + uptoBulkAll r
def uptoBulkEntries {H : Type} : List (Lit × DataW H) → Nat
  | [] => 0
  | x :: r => uptoBulkEntry x + uptoBulkEntries r
def uptoBulkEntry {H : Type} : Lit × DataW H → Nat
  | (.string bytes, d) => bytes.length + uptoBulk d + 1
  | (_, d) => uptoBulk d + 1
 end
def uptoSmall : (H : Type) → List (DataW H) → Bool := fun _ ds => decide (uptoBulkAll ds ≤ 1048576)
def OpenSpec.upto (s : _root_.Go.ChangeSpec) : _root_.Go.OpenSpec := { _root_.Go.OpenSpec.ofChange s with cond := some uptoSmall }

/-- 'permafrostlaw22.MountFormats', WHERE WHAT IT READS IS OF BULK AT MOST 1048576: true; the input reads as it did. -/
def mountFormatsUptoRow : OpenClaim := { program := "ytijjhfkgbmckkaagreatdoor", sum := "14f8b045181ee2234c1eea4cde0c2e19b3685bd75b107de18663c5cac3fb8906", func := "permafrost/permafrostlaw22.MountFormats", spec := "mountFormats", inPlace := ["maps.clone", "internal/bytealg.CountString", "internal/bytealg.IndexByteString", "internal/bytealg.IndexString"], unfollowed := true, recurses := true, named := ["unicode/utf8.first", "unicode/utf8.acceptRanges", "internal/bytealg.MaxLen"], apart := false, laid := [("unicode/utf8.acceptRanges", laid_unicode_utf8_acceptRanges), ("unicode/utf8.first", laid_unicode_utf8_first)], narrowed := true }
def MountFormatsUptoSaid : Prop := mountFormatsUptoRow.holds Tryz.pinned (OpenSpec.upto mountFormatsSpec)

/-- 'permafrostlaw22.MountMarks', WHERE WHAT IT READS IS OF BULK AT MOST 1048576: true; the input reads as it did. -/
def mountMarksUptoRow : OpenClaim := { program := "ytijjhfkgbmckkaagreatdoor", sum := "14f8b045181ee2234c1eea4cde0c2e19b3685bd75b107de18663c5cac3fb8906", func := "permafrost/permafrostlaw22.MountMarks", spec := "mountMarks", inPlace := ["maps.clone", "internal/bytealg.CountString", "internal/bytealg.IndexByteString", "internal/bytealg.IndexString"], unfollowed := true, recurses := true, named := ["unicode/utf8.first", "unicode/utf8.acceptRanges", "internal/bytealg.MaxLen"], apart := false, laid := [("unicode/utf8.acceptRanges", laid_unicode_utf8_acceptRanges), ("unicode/utf8.first", laid_unicode_utf8_first)], narrowed := true }
def MountMarksUptoSaid : Prop := mountMarksUptoRow.holds Tryz.pinned (OpenSpec.upto mountMarksSpec)

/-- 'permafrostlaw22.MountAgain', WHERE WHAT IT READS IS OF BULK AT MOST 1048576: true; the input reads as it did. -/
def mountAgainUptoRow : OpenClaim := { program := "ytijjhfkgbmckkaagreatdoor", sum := "14f8b045181ee2234c1eea4cde0c2e19b3685bd75b107de18663c5cac3fb8906", func := "permafrost/permafrostlaw22.MountAgain", spec := "mountAgain", inPlace := ["maps.clone", "internal/bytealg.CountString", "internal/bytealg.IndexByteString", "internal/bytealg.IndexString"], unfollowed := true, recurses := true, named := ["unicode/utf8.first", "unicode/utf8.acceptRanges", "internal/bytealg.MaxLen"], apart := false, laid := [("unicode/utf8.acceptRanges", laid_unicode_utf8_acceptRanges), ("unicode/utf8.first", laid_unicode_utf8_first)], narrowed := true }
def MountAgainUptoSaid : Prop := mountAgainUptoRow.holds Tryz.pinned (OpenSpec.upto mountAgainSpec)

/-- 'permafrostlaw22.MountAnchored', WHERE WHAT IT READS IS OF BULK AT MOST 1048576: true; the input reads as it did. -/
def mountAnchoredUptoRow : OpenClaim := { program := "ytijjhfkgbmckkaagreatdoor", sum := "14f8b045181ee2234c1eea4cde0c2e19b3685bd75b107de18663c5cac3fb8906", func := "permafrost/permafrostlaw22.MountAnchored", spec := "mountAnchored", inPlace := ["maps.clone", "internal/bytealg.CountString", "internal/bytealg.IndexByteString", "internal/bytealg.IndexString"], unfollowed := true, recurses := true, named := ["unicode/utf8.first", "unicode/utf8.acceptRanges", "internal/bytealg.MaxLen"], apart := false, laid := [("unicode/utf8.acceptRanges", laid_unicode_utf8_acceptRanges), ("unicode/utf8.first", laid_unicode_utf8_first)], narrowed := true }
def MountAnchoredUptoSaid : Prop := mountAnchoredUptoRow.holds Tryz.pinned (OpenSpec.upto mountAnchoredSpec)

/-- 'permafrostlaw22.MountFinds', WHERE WHAT IT READS IS OF BULK AT MOST 1048576: true; the input reads as it did. -/
def mountFindsUptoRow : OpenClaim := { program := "ytijjhfkgbmckkaagreatdoor", sum := "14f8b045181ee2234c1eea4cde0c2e19b3685bd75b107de18663c5cac3fb8906", func := "permafrost/permafrostlaw22.MountFinds", spec := "mountFinds", inPlace := ["maps.clone", "internal/bytealg.CountString", "internal/bytealg.IndexByteString", "internal/bytealg.IndexString"], unfollowed := true, recurses := true, named := ["unicode/utf8.first", "unicode/utf8.acceptRanges", "internal/bytealg.MaxLen"], apart := false, laid := [("unicode/utf8.acceptRanges", laid_unicode_utf8_acceptRanges), ("unicode/utf8.first", laid_unicode_utf8_first)], narrowed := true }
def MountFindsUptoSaid : Prop := mountFindsUptoRow.holds Tryz.pinned (OpenSpec.upto mountFindsSpec)

/-- 'permafrostlaw22.MountNumbers', WHERE WHAT IT READS IS OF BULK AT MOST 1048576: true; the input reads as it did. -/
def mountNumbersUptoRow : OpenClaim := { program := "ytijjhfkgbmckkaagreatdoor", sum := "14f8b045181ee2234c1eea4cde0c2e19b3685bd75b107de18663c5cac3fb8906", func := "permafrost/permafrostlaw22.MountNumbers", spec := "mountNumbers", inPlace := ["maps.clone", "internal/bytealg.CountString", "internal/bytealg.IndexByteString", "internal/bytealg.IndexString"], unfollowed := true, recurses := true, named := ["unicode/utf8.first", "unicode/utf8.acceptRanges", "internal/bytealg.MaxLen"], apart := false, laid := [("unicode/utf8.acceptRanges", laid_unicode_utf8_acceptRanges), ("unicode/utf8.first", laid_unicode_utf8_first)], narrowed := true }
def MountNumbersUptoSaid : Prop := mountNumbersUptoRow.holds Tryz.pinned (OpenSpec.upto mountNumbersSpec)

end Rows
end Go.Proofs.YtijjhfkgbmckkaaGreatDoor
