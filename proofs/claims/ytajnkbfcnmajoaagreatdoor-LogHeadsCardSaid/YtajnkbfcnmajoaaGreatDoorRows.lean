/-
  NARROWER THAN 'FOR EVERY INPUT', by the rows' own cells (each row's printed sentence says how): LogNumbers: laid · LogPlays: laid · LogFull: laid · LogOpens: laid · LogHeads: laid · LogSurvives: laid.
  DERIVED. THE GIVEN ROWS OF THIS SEAT. 6 by the template 'for every input the law returns true; each argument reads behind the call as it read before'; 0 by the template 'total and deterministic' (their statements: YtajnkbfcnmajoaaGreatDoorTotals.lean).
  GIVEN WITH THE SEED: the statements are not yours to turn. If you find one false, say at which input.
  Laid BY PROGRAM, IN A SANDBOX (cutbox-rows.mjs): the forced cells as the released guide's own fill.sh prints them over the translation 10ea8f814f8f6558… (all of the seat's roots in one cut). By AI agents, Wed Nov 11 2026. No macro, syntax, notation, axiom, sorry.
-/
import Derived.Test.YtajnkbfcnmajoaaGreatDoorChecked
import GoSem.PinnedTables
import GoSem.Claim
import GoSem.ClaimJoined
import GoSem.ClaimMapViews
import Derived.JoinedTies
import Derived.KernelRfl
namespace Go.Proofs.YtajnkbfcnmajoaaGreatDoor
/- THE CELL 'sum', in the pinned program and in every row, IS THE sha256 OF THE DUMP (.gsa) THAT YtajnkbfcnmajoaaGreatDoorProg.lean LOADS. Nothing in Lean hashes anything: it is a label: what it is worth is what the hold of that sum in a sandbox is worth. -/
noncomputable def Tryz.pinned : Pinned := { name := "ytajnkbfcnmajoaagreatdoor", sum := "10ea8f814f8f6558e1fb747f7a9f6f9f0d1b25cd7a74c1a54d1aad52aa3022db", checked := Tryz.checked }
namespace Rows
def none {H : Type} : Left H := { results := [], args := [] }

/- WHAT THE LISTED PACKAGE-LEVEL VARIABLES READ AS WHEN THE CALL BEGINS. Each datum BY PROGRAM (the guide's laid-datum.mjs) off the statement by which the dump's own 'gosem.cut.vars' lays the variable. In a bare row this is a premise. The card (YtajnkbfcnmajoaaGreatDoorCards.lean) ties it to the program's text. -/
def laid_unicode_utf8_acceptRanges {H : Type} : DataW H := .agg [.agg [.lit (.int .u8 128), .lit (.int .u8 191)], .agg [.lit (.int .u8 160), .lit (.int .u8 191)], .agg [.lit (.int .u8 128), .lit (.int .u8 159)], .agg [.lit (.int .u8 144), .lit (.int .u8 191)], .agg [.lit (.int .u8 128), .lit (.int .u8 143)], .agg [.lit (.int .u8 0), .lit (.int .u8 0)], .agg [.lit (.int .u8 0), .lit (.int .u8 0)], .agg [.lit (.int .u8 0), .lit (.int .u8 0)], .agg [.lit (.int .u8 0), .lit (.int .u8 0)], .agg [.lit (.int .u8 0), .lit (.int .u8 0)], .agg [.lit (.int .u8 0), .lit (.int .u8 0)], .agg [.lit (.int .u8 0), .lit (.int .u8 0)], .agg [.lit (.int .u8 0), .lit (.int .u8 0)], .agg [.lit (.int .u8 0), .lit (.int .u8 0)], .agg [.lit (.int .u8 0), .lit (.int .u8 0)], .agg [.lit (.int .u8 0), .lit (.int .u8 0)]]
/-- One of Go's own tables, pinned by name: the form's constant. -/
def laid_unicode_utf8_first : DataW Unit := Go.Pinned.utf8First

/-- 'permafrostlaw21.LogNumbers': WHATEVER THE INPUT: true; the input reads as it did. -/
def logNumbersSpec : ChangeSpec := { name := "logNumbers", fn := fun _ => fun
  | [] => { results := [.lit (.bool true)], args := [] }
  | _ => none }
def logNumbersRow : OpenClaim := { program := "ytajnkbfcnmajoaagreatdoor", sum := "10ea8f814f8f6558e1fb747f7a9f6f9f0d1b25cd7a74c1a54d1aad52aa3022db", func := "permafrost/permafrostlaw21.LogNumbers", spec := "logNumbers", unfollowed := true, recurses := true, named := ["unicode/utf8.first", "unicode/utf8.acceptRanges"], apart := false, laid := [("unicode/utf8.acceptRanges", laid_unicode_utf8_acceptRanges), ("unicode/utf8.first", laid_unicode_utf8_first)] }
def LogNumbersSaid : Prop := logNumbersRow.holds Tryz.pinned (OpenSpec.ofChange logNumbersSpec)

/-- ITS FALSE NEIGHBOUR: 'it returns false'. Refute it at one input. -/
def logNumbersWrong : ChangeSpec := { name := "logNumbers", fn := fun _ => fun
  | [] => { results := [.lit (.bool false)], args := [] }
  | _ => none }
def LogNumbersWrongFalsely : Prop := logNumbersRow.holds Tryz.pinned (OpenSpec.ofChange logNumbersWrong)

/-- 'permafrostlaw21.LogPlays': WHATEVER THE INPUT: true; the input reads as it did. -/
def logPlaysSpec : ChangeSpec := { name := "logPlays", fn := fun _ => fun
  | [d1, d2] => { results := [.lit (.bool true)], args := [d1, d2] }
  | _ => none }
def logPlaysRow : OpenClaim := { program := "ytajnkbfcnmajoaagreatdoor", sum := "10ea8f814f8f6558e1fb747f7a9f6f9f0d1b25cd7a74c1a54d1aad52aa3022db", func := "permafrost/permafrostlaw21.LogPlays", spec := "logPlays", unfollowed := true, recurses := true, named := ["unicode/utf8.first", "unicode/utf8.acceptRanges"], apart := false, laid := [("unicode/utf8.acceptRanges", laid_unicode_utf8_acceptRanges), ("unicode/utf8.first", laid_unicode_utf8_first)] }
def LogPlaysSaid : Prop := logPlaysRow.holds Tryz.pinned (OpenSpec.ofChange logPlaysSpec)

/-- ITS FALSE NEIGHBOUR: 'it returns false'. Refute it at one input. -/
def logPlaysWrong : ChangeSpec := { name := "logPlays", fn := fun _ => fun
  | [d1, d2] => { results := [.lit (.bool false)], args := [d1, d2] }
  | _ => none }
def LogPlaysWrongFalsely : Prop := logPlaysRow.holds Tryz.pinned (OpenSpec.ofChange logPlaysWrong)

/-- 'permafrostlaw21.LogFull': WHATEVER THE INPUT: true; the input reads as it did. -/
def logFullSpec : ChangeSpec := { name := "logFull", fn := fun _ => fun
  | [d1, d2] => { results := [.lit (.bool true)], args := [d1, d2] }
  | _ => none }
def logFullRow : OpenClaim := { program := "ytajnkbfcnmajoaagreatdoor", sum := "10ea8f814f8f6558e1fb747f7a9f6f9f0d1b25cd7a74c1a54d1aad52aa3022db", func := "permafrost/permafrostlaw21.LogFull", spec := "logFull", unfollowed := true, recurses := true, named := ["unicode/utf8.first", "unicode/utf8.acceptRanges"], apart := false, laid := [("unicode/utf8.acceptRanges", laid_unicode_utf8_acceptRanges), ("unicode/utf8.first", laid_unicode_utf8_first)] }
def LogFullSaid : Prop := logFullRow.holds Tryz.pinned (OpenSpec.ofChange logFullSpec)

/-- ITS FALSE NEIGHBOUR: 'it returns false'. Refute it at one input. -/
def logFullWrong : ChangeSpec := { name := "logFull", fn := fun _ => fun
  | [d1, d2] => { results := [.lit (.bool false)], args := [d1, d2] }
  | _ => none }
def LogFullWrongFalsely : Prop := logFullRow.holds Tryz.pinned (OpenSpec.ofChange logFullWrong)

/-- 'permafrostlaw21.LogOpens': WHATEVER THE INPUT: true; the input reads as it did. -/
def logOpensSpec : ChangeSpec := { name := "logOpens", fn := fun _ => fun
  | [d1, d2] => { results := [.lit (.bool true)], args := [d1, d2] }
  | _ => none }
def logOpensRow : OpenClaim := { program := "ytajnkbfcnmajoaagreatdoor", sum := "10ea8f814f8f6558e1fb747f7a9f6f9f0d1b25cd7a74c1a54d1aad52aa3022db", func := "permafrost/permafrostlaw21.LogOpens", spec := "logOpens", unfollowed := true, recurses := true, named := ["unicode/utf8.first", "unicode/utf8.acceptRanges"], apart := false, laid := [("unicode/utf8.acceptRanges", laid_unicode_utf8_acceptRanges), ("unicode/utf8.first", laid_unicode_utf8_first)] }
def LogOpensSaid : Prop := logOpensRow.holds Tryz.pinned (OpenSpec.ofChange logOpensSpec)

/-- ITS FALSE NEIGHBOUR: 'it returns false'. Refute it at one input. -/
def logOpensWrong : ChangeSpec := { name := "logOpens", fn := fun _ => fun
  | [d1, d2] => { results := [.lit (.bool false)], args := [d1, d2] }
  | _ => none }
def LogOpensWrongFalsely : Prop := logOpensRow.holds Tryz.pinned (OpenSpec.ofChange logOpensWrong)

/-- 'permafrostlaw21.LogHeads': WHATEVER THE INPUT: true; the input reads as it did. -/
def logHeadsSpec : ChangeSpec := { name := "logHeads", fn := fun _ => fun
  | [d] => { results := [.lit (.bool true)], args := [d] }
  | _ => none }
def logHeadsRow : OpenClaim := { program := "ytajnkbfcnmajoaagreatdoor", sum := "10ea8f814f8f6558e1fb747f7a9f6f9f0d1b25cd7a74c1a54d1aad52aa3022db", func := "permafrost/permafrostlaw21.LogHeads", spec := "logHeads", unfollowed := true, recurses := true, named := ["unicode/utf8.first", "unicode/utf8.acceptRanges"], apart := false, laid := [("unicode/utf8.acceptRanges", laid_unicode_utf8_acceptRanges), ("unicode/utf8.first", laid_unicode_utf8_first)] }
def LogHeadsSaid : Prop := logHeadsRow.holds Tryz.pinned (OpenSpec.ofChange logHeadsSpec)

/-- ITS FALSE NEIGHBOUR: 'it returns false'. Refute it at one input. -/
def logHeadsWrong : ChangeSpec := { name := "logHeads", fn := fun _ => fun
  | [d] => { results := [.lit (.bool false)], args := [d] }
  | _ => none }
def LogHeadsWrongFalsely : Prop := logHeadsRow.holds Tryz.pinned (OpenSpec.ofChange logHeadsWrong)

/-- 'permafrostlaw21.LogSurvives': WHATEVER THE INPUT: true; the input reads as it did. -/
def logSurvivesSpec : ChangeSpec := { name := "logSurvives", fn := fun _ => fun
  | [d1, d2, d3, d4, d5] => { results := [.lit (.bool true)], args := [d1, d2, d3, d4, d5] }
  | _ => none }
def logSurvivesRow : OpenClaim := { program := "ytajnkbfcnmajoaagreatdoor", sum := "10ea8f814f8f6558e1fb747f7a9f6f9f0d1b25cd7a74c1a54d1aad52aa3022db", func := "permafrost/permafrostlaw21.LogSurvives", spec := "logSurvives", unfollowed := true, recurses := true, named := ["unicode/utf8.first", "unicode/utf8.acceptRanges"], apart := false, laid := [("unicode/utf8.acceptRanges", laid_unicode_utf8_acceptRanges), ("unicode/utf8.first", laid_unicode_utf8_first)] }
def LogSurvivesSaid : Prop := logSurvivesRow.holds Tryz.pinned (OpenSpec.ofChange logSurvivesSpec)

/-- ITS FALSE NEIGHBOUR: 'it returns false'. Refute it at one input. -/
def logSurvivesWrong : ChangeSpec := { name := "logSurvives", fn := fun _ => fun
  | [d1, d2, d3, d4, d5] => { results := [.lit (.bool false)], args := [d1, d2, d3, d4, d5] }
  | _ => none }
def LogSurvivesWrongFalsely : Prop := logSurvivesRow.holds Tryz.pinned (OpenSpec.ofChange logSurvivesWrong)

/- THE SECOND FORM. 'bulk': how many values and letters a reading holds, each counted each time it is reached (what is shared counts as often as it is met; a slice's spare places count too). A statement '..UptoSaid' is the law's where the arguments, and the package variables that the reading takes, are together of bulk at most 1048576: NARROWER than '..Said'. Prove '..Said' where nothing that the law and all that it calls make is longer than what came in: it says more and counts as full. Else prove '..UptoSaid'. A law counts once. -/
mutual
def uptoBulk {H : Type} : DataW H → Nat
  | .lit (.string bytes) => bytes.length + 1
  | .lit _ => 1
  | .nil => 1
  | .ptr d => uptoBulk d + 1
  | .slice elems spare => uptoBulkAll elems + uptoBulkAll spare + 1
  | .agg parts => uptoBulkAll parts + 1
  | .iface _ d => uptoBulk d + 1
  | .map entries => uptoBulkEntries entries + 1
  | .held _ => 1
def uptoBulkAll {H : Type} : List (DataW H) → Nat
  | [] => 0
  | d :: r => uptoBulk d + uptoBulkAll r
def uptoBulkEntries {H : Type} : List (Lit × DataW H) → Nat
  | [] => 0
  | x :: r => uptoBulkEntry x + uptoBulkEntries r
def uptoBulkEntry {H : Type} : Lit × DataW H → Nat
  | (.string bytes, d) => bytes.length + uptoBulk d + 1
  | (_, d) => uptoBulk d + 1
 end
def uptoSmall : (H : Type) → List (DataW H) → Bool := fun _ ds => decide (uptoBulkAll ds ≤ 1048576)
def OpenSpec.upto (s : _root_.Go.ChangeSpec) : _root_.Go.OpenSpec := { _root_.Go.OpenSpec.ofChange s with cond := some uptoSmall }

/-- 'permafrostlaw21.LogNumbers', WHERE WHAT IT READS IS OF BULK AT MOST 1048576: true; the input reads as it did. -/
def logNumbersUptoRow : OpenClaim := { program := "ytajnkbfcnmajoaagreatdoor", sum := "10ea8f814f8f6558e1fb747f7a9f6f9f0d1b25cd7a74c1a54d1aad52aa3022db", func := "permafrost/permafrostlaw21.LogNumbers", spec := "logNumbers", unfollowed := true, recurses := true, named := ["unicode/utf8.first", "unicode/utf8.acceptRanges"], apart := false, laid := [("unicode/utf8.acceptRanges", laid_unicode_utf8_acceptRanges), ("unicode/utf8.first", laid_unicode_utf8_first)], narrowed := true }
def LogNumbersUptoSaid : Prop := logNumbersUptoRow.holds Tryz.pinned (OpenSpec.upto logNumbersSpec)

/-- 'permafrostlaw21.LogPlays', WHERE WHAT IT READS IS OF BULK AT MOST 1048576: true; the input reads as it did. -/
def logPlaysUptoRow : OpenClaim := { program := "ytajnkbfcnmajoaagreatdoor", sum := "10ea8f814f8f6558e1fb747f7a9f6f9f0d1b25cd7a74c1a54d1aad52aa3022db", func := "permafrost/permafrostlaw21.LogPlays", spec := "logPlays", unfollowed := true, recurses := true, named := ["unicode/utf8.first", "unicode/utf8.acceptRanges"], apart := false, laid := [("unicode/utf8.acceptRanges", laid_unicode_utf8_acceptRanges), ("unicode/utf8.first", laid_unicode_utf8_first)], narrowed := true }
def LogPlaysUptoSaid : Prop := logPlaysUptoRow.holds Tryz.pinned (OpenSpec.upto logPlaysSpec)

/-- 'permafrostlaw21.LogFull', WHERE WHAT IT READS IS OF BULK AT MOST 1048576: true; the input reads as it did. -/
def logFullUptoRow : OpenClaim := { program := "ytajnkbfcnmajoaagreatdoor", sum := "10ea8f814f8f6558e1fb747f7a9f6f9f0d1b25cd7a74c1a54d1aad52aa3022db", func := "permafrost/permafrostlaw21.LogFull", spec := "logFull", unfollowed := true, recurses := true, named := ["unicode/utf8.first", "unicode/utf8.acceptRanges"], apart := false, laid := [("unicode/utf8.acceptRanges", laid_unicode_utf8_acceptRanges), ("unicode/utf8.first", laid_unicode_utf8_first)], narrowed := true }
def LogFullUptoSaid : Prop := logFullUptoRow.holds Tryz.pinned (OpenSpec.upto logFullSpec)

/-- 'permafrostlaw21.LogOpens', WHERE WHAT IT READS IS OF BULK AT MOST 1048576: true; the input reads as it did. -/
def logOpensUptoRow : OpenClaim := { program := "ytajnkbfcnmajoaagreatdoor", sum := "10ea8f814f8f6558e1fb747f7a9f6f9f0d1b25cd7a74c1a54d1aad52aa3022db", func := "permafrost/permafrostlaw21.LogOpens", spec := "logOpens", unfollowed := true, recurses := true, named := ["unicode/utf8.first", "unicode/utf8.acceptRanges"], apart := false, laid := [("unicode/utf8.acceptRanges", laid_unicode_utf8_acceptRanges), ("unicode/utf8.first", laid_unicode_utf8_first)], narrowed := true }
def LogOpensUptoSaid : Prop := logOpensUptoRow.holds Tryz.pinned (OpenSpec.upto logOpensSpec)

/-- 'permafrostlaw21.LogHeads', WHERE WHAT IT READS IS OF BULK AT MOST 1048576: true; the input reads as it did. -/
def logHeadsUptoRow : OpenClaim := { program := "ytajnkbfcnmajoaagreatdoor", sum := "10ea8f814f8f6558e1fb747f7a9f6f9f0d1b25cd7a74c1a54d1aad52aa3022db", func := "permafrost/permafrostlaw21.LogHeads", spec := "logHeads", unfollowed := true, recurses := true, named := ["unicode/utf8.first", "unicode/utf8.acceptRanges"], apart := false, laid := [("unicode/utf8.acceptRanges", laid_unicode_utf8_acceptRanges), ("unicode/utf8.first", laid_unicode_utf8_first)], narrowed := true }
def LogHeadsUptoSaid : Prop := logHeadsUptoRow.holds Tryz.pinned (OpenSpec.upto logHeadsSpec)

/-- 'permafrostlaw21.LogSurvives', WHERE WHAT IT READS IS OF BULK AT MOST 1048576: true; the input reads as it did. -/
def logSurvivesUptoRow : OpenClaim := { program := "ytajnkbfcnmajoaagreatdoor", sum := "10ea8f814f8f6558e1fb747f7a9f6f9f0d1b25cd7a74c1a54d1aad52aa3022db", func := "permafrost/permafrostlaw21.LogSurvives", spec := "logSurvives", unfollowed := true, recurses := true, named := ["unicode/utf8.first", "unicode/utf8.acceptRanges"], apart := false, laid := [("unicode/utf8.acceptRanges", laid_unicode_utf8_acceptRanges), ("unicode/utf8.first", laid_unicode_utf8_first)], narrowed := true }
def LogSurvivesUptoSaid : Prop := logSurvivesUptoRow.holds Tryz.pinned (OpenSpec.upto logSurvivesSpec)

end Rows
end Go.Proofs.YtajnkbfcnmajoaaGreatDoor
