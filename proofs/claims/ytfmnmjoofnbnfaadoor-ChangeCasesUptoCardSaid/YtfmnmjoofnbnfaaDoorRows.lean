/-
  NARROWER THAN 'FOR EVERY INPUT', by the rows' own cells (each row's printed sentence says how): ChangeCounts: laid · ChangeCases: laid · ChangeApplies: laid · ChangeStands: laid · ChangeTransposes: laid.
  DERIVED. THE GIVEN ROWS OF THIS SEAT. 5 by the template 'for every input the law returns true; each argument reads behind the call as it read before'; 0 by the template 'total and deterministic' (their statements: YtfmnmjoofnbnfaaDoorTotals.lean).
  GIVEN WITH THE SEED: the statements are not yours to turn. If you find one false, say at which input.
  Laid BY PROGRAM, IN A SANDBOX (cutbox-rows.mjs): the forced cells as the released guide's own fill.sh prints them over the translation 78fd9d4440513aef… (all of the seat's roots in one cut). By AI agents, Wed Nov 11 2026. No macro, syntax, notation, axiom, sorry.
-/
import Derived.Test.YtfmnmjoofnbnfaaDoorChecked
import GoSem.PinnedTables
import GoSem.Claim
import GoSem.ClaimJoined
import GoSem.ClaimMapViews
import Derived.JoinedTies
import Derived.KernelRfl
namespace Go.Proofs.YtfmnmjoofnbnfaaDoor
/- THE CELL 'sum', in the pinned program and in every row, IS THE sha256 OF THE DUMP (.gsa) THAT YtfmnmjoofnbnfaaDoorProg.lean LOADS. Nothing in Lean hashes anything: it is a label: what it is worth is what the hold of that sum in a sandbox is worth. -/
noncomputable def Tryd.pinned : Pinned := { name := "ytfmnmjoofnbnfaadoor", sum := "78fd9d4440513aefa299d696f07b4d83e4a04bc00bc355190570b7bf0de90723", checked := Tryd.checked }
namespace Rows
def none {H : Type} : Left H := { results := [], args := [] }

/- WHAT THE LISTED PACKAGE-LEVEL VARIABLES READ AS WHEN THE CALL BEGINS. Each datum BY PROGRAM (the guide's laid-datum.mjs) off the statement by which the dump's own 'gosem.cut.vars' lays the variable. In a bare row this is a premise. The card (YtfmnmjoofnbnfaaDoorCards.lean) ties it to the program's text. -/
def laid_unicode_utf8_acceptRanges {H : Type} : DataW H := .agg [.agg [.lit (.int .u8 128), .lit (.int .u8 191)], .agg [.lit (.int .u8 160), .lit (.int .u8 191)], .agg [.lit (.int .u8 128), .lit (.int .u8 159)], .agg [.lit (.int .u8 144), .lit (.int .u8 191)], .agg [.lit (.int .u8 128), .lit (.int .u8 143)], .agg [.lit (.int .u8 0), .lit (.int .u8 0)], .agg [.lit (.int .u8 0), .lit (.int .u8 0)], .agg [.lit (.int .u8 0), .lit (.int .u8 0)], .agg [.lit (.int .u8 0), .lit (.int .u8 0)], .agg [.lit (.int .u8 0), .lit (.int .u8 0)], .agg [.lit (.int .u8 0), .lit (.int .u8 0)], .agg [.lit (.int .u8 0), .lit (.int .u8 0)], .agg [.lit (.int .u8 0), .lit (.int .u8 0)], .agg [.lit (.int .u8 0), .lit (.int .u8 0)], .agg [.lit (.int .u8 0), .lit (.int .u8 0)], .agg [.lit (.int .u8 0), .lit (.int .u8 0)]]
/-- One of Go's own tables, pinned by name: the form's constant. -/
def laid_unicode_utf8_first : DataW Unit := Go.Pinned.utf8First

/-- 'bodkinlaw17.ChangeCounts': WHATEVER THE INPUT: true; the input reads as it did. -/
def changeCountsSpec : ChangeSpec := { name := "changeCounts", fn := fun _ => fun
  | [d1, d2] => { results := [.lit (.bool true)], args := [d1, d2] }
  | _ => none }
def changeCountsRow : OpenClaim := { program := "ytfmnmjoofnbnfaadoor", sum := "78fd9d4440513aefa299d696f07b4d83e4a04bc00bc355190570b7bf0de90723", func := "bodkin/bodkinlaw17.ChangeCounts", spec := "changeCounts", inPlace := ["internal/bytealg.IndexByteString"], unfollowed := true, recurses := true, named := ["unicode/utf8.first", "unicode/utf8.acceptRanges"], apart := false, laid := [("unicode/utf8.acceptRanges", laid_unicode_utf8_acceptRanges), ("unicode/utf8.first", laid_unicode_utf8_first)] }
def ChangeCountsSaid : Prop := changeCountsRow.holds Tryd.pinned (OpenSpec.ofChange changeCountsSpec)

/-- ITS FALSE NEIGHBOUR: 'it returns false'. Refute it at one input. -/
def changeCountsWrong : ChangeSpec := { name := "changeCounts", fn := fun _ => fun
  | [d1, d2] => { results := [.lit (.bool false)], args := [d1, d2] }
  | _ => none }
def ChangeCountsWrongFalsely : Prop := changeCountsRow.holds Tryd.pinned (OpenSpec.ofChange changeCountsWrong)

/-- 'bodkinlaw17.ChangeCases': WHATEVER THE INPUT: true; the input reads as it did. -/
def changeCasesSpec : ChangeSpec := { name := "changeCases", fn := fun _ => fun
  | [d1, d2] => { results := [.lit (.bool true)], args := [d1, d2] }
  | _ => none }
def changeCasesRow : OpenClaim := { program := "ytfmnmjoofnbnfaadoor", sum := "78fd9d4440513aefa299d696f07b4d83e4a04bc00bc355190570b7bf0de90723", func := "bodkin/bodkinlaw17.ChangeCases", spec := "changeCases", inPlace := ["internal/bytealg.IndexByteString"], unfollowed := true, recurses := true, named := ["unicode/utf8.first", "unicode/utf8.acceptRanges"], apart := false, laid := [("unicode/utf8.acceptRanges", laid_unicode_utf8_acceptRanges), ("unicode/utf8.first", laid_unicode_utf8_first)] }
def ChangeCasesSaid : Prop := changeCasesRow.holds Tryd.pinned (OpenSpec.ofChange changeCasesSpec)

/-- ITS FALSE NEIGHBOUR: 'it returns false'. Refute it at one input. -/
def changeCasesWrong : ChangeSpec := { name := "changeCases", fn := fun _ => fun
  | [d1, d2] => { results := [.lit (.bool false)], args := [d1, d2] }
  | _ => none }
def ChangeCasesWrongFalsely : Prop := changeCasesRow.holds Tryd.pinned (OpenSpec.ofChange changeCasesWrong)

/-- 'bodkinlaw17.ChangeApplies': WHATEVER THE INPUT: true; the input reads as it did. -/
def changeAppliesSpec : ChangeSpec := { name := "changeApplies", fn := fun _ => fun
  | [d1, d2] => { results := [.lit (.bool true)], args := [d1, d2] }
  | _ => none }
def changeAppliesRow : OpenClaim := { program := "ytfmnmjoofnbnfaadoor", sum := "78fd9d4440513aefa299d696f07b4d83e4a04bc00bc355190570b7bf0de90723", func := "bodkin/bodkinlaw17.ChangeApplies", spec := "changeApplies", inPlace := ["internal/bytealg.IndexByteString"], unfollowed := true, recurses := true, named := ["unicode/utf8.first", "unicode/utf8.acceptRanges"], apart := false, laid := [("unicode/utf8.acceptRanges", laid_unicode_utf8_acceptRanges), ("unicode/utf8.first", laid_unicode_utf8_first)] }
def ChangeAppliesSaid : Prop := changeAppliesRow.holds Tryd.pinned (OpenSpec.ofChange changeAppliesSpec)

/-- ITS FALSE NEIGHBOUR: 'it returns false'. Refute it at one input. -/
def changeAppliesWrong : ChangeSpec := { name := "changeApplies", fn := fun _ => fun
  | [d1, d2] => { results := [.lit (.bool false)], args := [d1, d2] }
  | _ => none }
def ChangeAppliesWrongFalsely : Prop := changeAppliesRow.holds Tryd.pinned (OpenSpec.ofChange changeAppliesWrong)

/-- 'bodkinlaw17.ChangeStands': WHATEVER THE INPUT: true; the input reads as it did. -/
def changeStandsSpec : ChangeSpec := { name := "changeStands", fn := fun _ => fun
  | [d1, d2] => { results := [.lit (.bool true)], args := [d1, d2] }
  | _ => none }
def changeStandsRow : OpenClaim := { program := "ytfmnmjoofnbnfaadoor", sum := "78fd9d4440513aefa299d696f07b4d83e4a04bc00bc355190570b7bf0de90723", func := "bodkin/bodkinlaw17.ChangeStands", spec := "changeStands", inPlace := ["internal/bytealg.IndexByteString"], unfollowed := true, recurses := true, named := ["unicode/utf8.first", "unicode/utf8.acceptRanges"], apart := false, laid := [("unicode/utf8.acceptRanges", laid_unicode_utf8_acceptRanges), ("unicode/utf8.first", laid_unicode_utf8_first)] }
def ChangeStandsSaid : Prop := changeStandsRow.holds Tryd.pinned (OpenSpec.ofChange changeStandsSpec)

/-- ITS FALSE NEIGHBOUR: 'it returns false'. Refute it at one input. -/
def changeStandsWrong : ChangeSpec := { name := "changeStands", fn := fun _ => fun
  | [d1, d2] => { results := [.lit (.bool false)], args := [d1, d2] }
  | _ => none }
def ChangeStandsWrongFalsely : Prop := changeStandsRow.holds Tryd.pinned (OpenSpec.ofChange changeStandsWrong)

/-- 'bodkinlaw17.ChangeTransposes': WHATEVER THE INPUT: true; the input reads as it did. -/
def changeTransposesSpec : ChangeSpec := { name := "changeTransposes", fn := fun _ => fun
  | [d1, d2] => { results := [.lit (.bool true)], args := [d1, d2] }
  | _ => none }
def changeTransposesRow : OpenClaim := { program := "ytfmnmjoofnbnfaadoor", sum := "78fd9d4440513aefa299d696f07b4d83e4a04bc00bc355190570b7bf0de90723", func := "bodkin/bodkinlaw17.ChangeTransposes", spec := "changeTransposes", inPlace := ["internal/bytealg.IndexByteString"], unfollowed := true, recurses := true, named := ["unicode/utf8.first", "unicode/utf8.acceptRanges"], apart := false, laid := [("unicode/utf8.acceptRanges", laid_unicode_utf8_acceptRanges), ("unicode/utf8.first", laid_unicode_utf8_first)] }
def ChangeTransposesSaid : Prop := changeTransposesRow.holds Tryd.pinned (OpenSpec.ofChange changeTransposesSpec)

/-- ITS FALSE NEIGHBOUR: 'it returns false'. Refute it at one input. -/
def changeTransposesWrong : ChangeSpec := { name := "changeTransposes", fn := fun _ => fun
  | [d1, d2] => { results := [.lit (.bool false)], args := [d1, d2] }
  | _ => none }
def ChangeTransposesWrongFalsely : Prop := changeTransposesRow.holds Tryd.pinned (OpenSpec.ofChange changeTransposesWrong)

/- THE SECOND FORM. 'bulk': how many values and letters a reading holds, each counted each time it is reached (what is shared counts as often as it is met; a slice's spare places count too). A statement '..UptoSaid' is the law's where the arguments, and the package variables that the reading takes, are together of bulk at most 1048576: NARROWER than '..Said'. Prove '..Said' where nothing that the law and all that it calls make is longer than what came in: it says more and counts as full. Else prove '..UptoSaid'. A law counts once. -/
mutual
def uptoBulk {H : Type} : DataW H → Nat
  | .lit (.string bytes) => bytes.length + 1
  | .lit _ => 1
  | .nil => 1
  | .ptr d => uptoBulk d + 1
  | .slice elems spare => uptoBulkAll elems + uptoBulkAll spare + 1
  | .agg parts => uptoBulkAll parts + 1
  | .iface _ d => uptoBulk d + 1
  | .map entries => uptoBulkEntries entries + 1
  | .held _ => 1
def uptoBulkAll {H : Type} : List (DataW H) → Nat
  | [] => 0
  | d :: r => uptoBulk d + uptoBulkAll r
def uptoBulkEntries {H : Type} : List (Lit × DataW H) → Nat
  | [] => 0
  | x :: r => uptoBulkEntry x + uptoBulkEntries r
def uptoBulkEntry {H : Type} : Lit × DataW H → Nat
  | (.string bytes, d) => bytes.length + uptoBulk d + 1
  | (_, d) => uptoBulk d + 1
 end
def uptoSmall : (H : Type) → List (DataW H) → Bool := fun _ ds => decide (uptoBulkAll ds ≤ 1048576)
def OpenSpec.upto (s : _root_.Go.ChangeSpec) : _root_.Go.OpenSpec := { _root_.Go.OpenSpec.ofChange s with cond := some uptoSmall }

/-- 'bodkinlaw17.ChangeCounts', WHERE WHAT IT READS IS OF BULK AT MOST 1048576: true; the input reads as it did. -/
def changeCountsUptoRow : OpenClaim := { program := "ytfmnmjoofnbnfaadoor", sum := "78fd9d4440513aefa299d696f07b4d83e4a04bc00bc355190570b7bf0de90723", func := "bodkin/bodkinlaw17.ChangeCounts", spec := "changeCounts", inPlace := ["internal/bytealg.IndexByteString"], unfollowed := true, recurses := true, named := ["unicode/utf8.first", "unicode/utf8.acceptRanges"], apart := false, laid := [("unicode/utf8.acceptRanges", laid_unicode_utf8_acceptRanges), ("unicode/utf8.first", laid_unicode_utf8_first)], narrowed := true }
def ChangeCountsUptoSaid : Prop := changeCountsUptoRow.holds Tryd.pinned (OpenSpec.upto changeCountsSpec)

/-- 'bodkinlaw17.ChangeCases', WHERE WHAT IT READS IS OF BULK AT MOST 1048576: true; the input reads as it did. -/
def changeCasesUptoRow : OpenClaim := { program := "ytfmnmjoofnbnfaadoor", sum := "78fd9d4440513aefa299d696f07b4d83e4a04bc00bc355190570b7bf0de90723", func := "bodkin/bodkinlaw17.ChangeCases", spec := "changeCases", inPlace := ["internal/bytealg.IndexByteString"], unfollowed := true, recurses := true, named := ["unicode/utf8.first", "unicode/utf8.acceptRanges"], apart := false, laid := [("unicode/utf8.acceptRanges", laid_unicode_utf8_acceptRanges), ("unicode/utf8.first", laid_unicode_utf8_first)], narrowed := true }
def ChangeCasesUptoSaid : Prop := changeCasesUptoRow.holds Tryd.pinned (OpenSpec.upto changeCasesSpec)

/-- 'bodkinlaw17.ChangeApplies', WHERE WHAT IT READS IS OF BULK AT MOST 1048576: true; the input reads as it did. -/
def changeAppliesUptoRow : OpenClaim := { program := "ytfmnmjoofnbnfaadoor", sum := "78fd9d4440513aefa299d696f07b4d83e4a04bc00bc355190570b7bf0de90723", func := "bodkin/bodkinlaw17.ChangeApplies", spec := "changeApplies", inPlace := ["internal/bytealg.IndexByteString"], unfollowed := true, recurses := true, named := ["unicode/utf8.first", "unicode/utf8.acceptRanges"], apart := false, laid := [("unicode/utf8.acceptRanges", laid_unicode_utf8_acceptRanges), ("unicode/utf8.first", laid_unicode_utf8_first)], narrowed := true }
def ChangeAppliesUptoSaid : Prop := changeAppliesUptoRow.holds Tryd.pinned (OpenSpec.upto changeAppliesSpec)

/-- 'bodkinlaw17.ChangeStands', WHERE WHAT IT READS IS OF BULK AT MOST 1048576: true; the input reads as it did. -/
def changeStandsUptoRow : OpenClaim := { program := "ytfmnmjoofnbnfaadoor", sum := "78fd9d4440513aefa299d696f07b4d83e4a04bc00bc355190570b7bf0de90723", func := "bodkin/bodkinlaw17.ChangeStands", spec := "changeStands", inPlace := ["internal/bytealg.IndexByteString"], unfollowed := true, recurses := true, named := ["unicode/utf8.first", "unicode/utf8.acceptRanges"], apart := false, laid := [("unicode/utf8.acceptRanges", laid_unicode_utf8_acceptRanges), ("unicode/utf8.first", laid_unicode_utf8_first)], narrowed := true }
def ChangeStandsUptoSaid : Prop := changeStandsUptoRow.holds Tryd.pinned (OpenSpec.upto changeStandsSpec)

/-- 'bodkinlaw17.ChangeTransposes', WHERE WHAT IT READS IS OF BULK AT MOST 1048576: true; the input reads as it did. -/
def changeTransposesUptoRow : OpenClaim := { program := "ytfmnmjoofnbnfaadoor", sum := "78fd9d4440513aefa299d696f07b4d83e4a04bc00bc355190570b7bf0de90723", func := "bodkin/bodkinlaw17.ChangeTransposes", spec := "changeTransposes", inPlace := ["internal/bytealg.IndexByteString"], unfollowed := true, recurses := true, named := ["unicode/utf8.first", "unicode/utf8.acceptRanges"], apart := false, laid := [("unicode/utf8.acceptRanges", laid_unicode_utf8_acceptRanges), ("unicode/utf8.first", laid_unicode_utf8_first)], narrowed := true }
def ChangeTransposesUptoSaid : Prop := changeTransposesUptoRow.holds Tryd.pinned (OpenSpec.upto changeTransposesSpec)

end Rows
end Go.Proofs.YtfmnmjoofnbnfaaDoor
