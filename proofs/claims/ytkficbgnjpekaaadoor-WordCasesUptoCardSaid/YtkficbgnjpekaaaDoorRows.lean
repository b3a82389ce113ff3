/-
  NARROWER THAN 'FOR EVERY INPUT', by the rows' own cells (each row's printed sentence says how): WordChars: laid · WordSpans: laid · WordMoves: laid · WordTiles: laid · WordSteps: laid · WordForms: laid · WordCases: laid · WordCased: laid · WordJoins: laid.
  DERIVED. THE GIVEN ROWS OF THIS SEAT. 9 by the template 'for every input the law returns true; each argument reads behind the call as it read before'; 0 by the template 'total and deterministic' (their statements: YtkficbgnjpekaaaDoorTotals.lean).
  GIVEN WITH THE SEED: the statements are not yours to turn. If you find one false, say at which input.
  Laid BY PROGRAM, IN A SANDBOX (cutbox-rows.mjs): the forced cells as the released guide's own fill.sh prints them over the translation 1c5670d1b95813f7… (all of the seat's roots in one cut). By AI agents, Wed Nov 11 2026. No macro, syntax, notation, axiom, sorry.
-/
import Derived.Test.YtkficbgnjpekaaaDoorChecked
import GoSem.PinnedTables
import GoSem.Claim
import GoSem.ClaimJoined
import GoSem.ClaimMapViews
import Derived.JoinedTies
import Derived.KernelRfl
namespace Go.Proofs.YtkficbgnjpekaaaDoor
/- THE CELL 'sum', in the pinned program and in every row, IS THE sha256 OF THE DUMP (.gsa) THAT YtkficbgnjpekaaaDoorProg.lean LOADS. Nothing in Lean hashes anything: it is a label: what it is worth is what the hold of that sum in a sandbox is worth. -/
noncomputable def Tryd.pinned : Pinned := { name := "ytkficbgnjpekaaadoor", sum := "1c5670d1b95813f7c8577b8e56688e2f4371069467960c80e9b6b16fc146ad71", checked := Tryd.checked }
namespace Rows
def none {H : Type} : Left H := { results := [], args := [] }

/- WHAT THE LISTED PACKAGE-LEVEL VARIABLES READ AS WHEN THE CALL BEGINS. Each datum BY PROGRAM (the guide's laid-datum.mjs) off the statement by which the dump's own 'gosem.cut.vars' lays the variable. In a bare row this is a premise. The card (YtkficbgnjpekaaaDoorCards.lean) ties it to the program's text. -/
def laid_unicode_utf8_acceptRanges {H : Type} : DataW H := .agg [.agg [.lit (.int .u8 128), .lit (.int .u8 191)], .agg [.lit (.int .u8 160), .lit (.int .u8 191)], .agg [.lit (.int .u8 128), .lit (.int .u8 159)], .agg [.lit (.int .u8 144), .lit (.int .u8 191)], .agg [.lit (.int .u8 128), .lit (.int .u8 143)], .agg [.lit (.int .u8 0), .lit (.int .u8 0)], .agg [.lit (.int .u8 0), .lit (.int .u8 0)], .agg [.lit (.int .u8 0), .lit (.int .u8 0)], .agg [.lit (.int .u8 0), .lit (.int .u8 0)], .agg [.lit (.int .u8 0), .lit (.int .u8 0)], .agg [.lit (.int .u8 0), .lit (.int .u8 0)], .agg [.lit (.int .u8 0), .lit (.int .u8 0)], .agg [.lit (.int .u8 0), .lit (.int .u8 0)], .agg [.lit (.int .u8 0), .lit (.int .u8 0)], .agg [.lit (.int .u8 0), .lit (.int .u8 0)], .agg [.lit (.int .u8 0), .lit (.int .u8 0)]]
/-- One of Go's own tables, pinned by name: the form's constant. -/
def laid_unicode_utf8_first : DataW Unit := Go.Pinned.utf8First

/-- 'bodkinlaw05.WordChars': WHATEVER THE INPUT: true; the input reads as it did. -/
def wordCharsSpec : ChangeSpec := { name := "wordChars", fn := fun _ => fun
  | [d] => { results := [.lit (.bool true)], args := [d] }
  | _ => none }
def wordCharsRow : OpenClaim := { program := "ytkficbgnjpekaaadoor", sum := "1c5670d1b95813f7c8577b8e56688e2f4371069467960c80e9b6b16fc146ad71", func := "bodkin/bodkinlaw05.WordChars", spec := "wordChars", unfollowed := true, recurses := true, named := ["unicode/utf8.first", "unicode/utf8.acceptRanges"], apart := false, laid := [("unicode/utf8.acceptRanges", laid_unicode_utf8_acceptRanges), ("unicode/utf8.first", laid_unicode_utf8_first)] }
def WordCharsSaid : Prop := wordCharsRow.holds Tryd.pinned (OpenSpec.ofChange wordCharsSpec)

/-- ITS FALSE NEIGHBOUR: 'it returns false'. Refute it at one input. -/
def wordCharsWrong : ChangeSpec := { name := "wordChars", fn := fun _ => fun
  | [d] => { results := [.lit (.bool false)], args := [d] }
  | _ => none }
def WordCharsWrongFalsely : Prop := wordCharsRow.holds Tryd.pinned (OpenSpec.ofChange wordCharsWrong)

/-- 'bodkinlaw05.WordSpans': WHATEVER THE INPUT: true; the input reads as it did. -/
def wordSpansSpec : ChangeSpec := { name := "wordSpans", fn := fun _ => fun
  | [d] => { results := [.lit (.bool true)], args := [d] }
  | _ => none }
def wordSpansRow : OpenClaim := { program := "ytkficbgnjpekaaadoor", sum := "1c5670d1b95813f7c8577b8e56688e2f4371069467960c80e9b6b16fc146ad71", func := "bodkin/bodkinlaw05.WordSpans", spec := "wordSpans", unfollowed := true, recurses := true, named := ["unicode/utf8.first", "unicode/utf8.acceptRanges"], apart := false, laid := [("unicode/utf8.acceptRanges", laid_unicode_utf8_acceptRanges), ("unicode/utf8.first", laid_unicode_utf8_first)] }
def WordSpansSaid : Prop := wordSpansRow.holds Tryd.pinned (OpenSpec.ofChange wordSpansSpec)

/-- ITS FALSE NEIGHBOUR: 'it returns false'. Refute it at one input. -/
def wordSpansWrong : ChangeSpec := { name := "wordSpans", fn := fun _ => fun
  | [d] => { results := [.lit (.bool false)], args := [d] }
  | _ => none }
def WordSpansWrongFalsely : Prop := wordSpansRow.holds Tryd.pinned (OpenSpec.ofChange wordSpansWrong)

/-- 'bodkinlaw05.WordMoves': WHATEVER THE INPUT: true; the input reads as it did. -/
def wordMovesSpec : ChangeSpec := { name := "wordMoves", fn := fun _ => fun
  | [d1, d2] => { results := [.lit (.bool true)], args := [d1, d2] }
  | _ => none }
def wordMovesRow : OpenClaim := { program := "ytkficbgnjpekaaadoor", sum := "1c5670d1b95813f7c8577b8e56688e2f4371069467960c80e9b6b16fc146ad71", func := "bodkin/bodkinlaw05.WordMoves", spec := "wordMoves", unfollowed := true, recurses := true, named := ["unicode/utf8.first", "unicode/utf8.acceptRanges"], apart := false, laid := [("unicode/utf8.acceptRanges", laid_unicode_utf8_acceptRanges), ("unicode/utf8.first", laid_unicode_utf8_first)] }
def WordMovesSaid : Prop := wordMovesRow.holds Tryd.pinned (OpenSpec.ofChange wordMovesSpec)

/-- ITS FALSE NEIGHBOUR: 'it returns false'. Refute it at one input. -/
def wordMovesWrong : ChangeSpec := { name := "wordMoves", fn := fun _ => fun
  | [d1, d2] => { results := [.lit (.bool false)], args := [d1, d2] }
  | _ => none }
def WordMovesWrongFalsely : Prop := wordMovesRow.holds Tryd.pinned (OpenSpec.ofChange wordMovesWrong)

/-- 'bodkinlaw05.WordTiles': WHATEVER THE INPUT: true; the input reads as it did. -/
def wordTilesSpec : ChangeSpec := { name := "wordTiles", fn := fun _ => fun
  | [d] => { results := [.lit (.bool true)], args := [d] }
  | _ => none }
def wordTilesRow : OpenClaim := { program := "ytkficbgnjpekaaadoor", sum := "1c5670d1b95813f7c8577b8e56688e2f4371069467960c80e9b6b16fc146ad71", func := "bodkin/bodkinlaw05.WordTiles", spec := "wordTiles", unfollowed := true, recurses := true, named := ["unicode/utf8.first", "unicode/utf8.acceptRanges"], apart := false, laid := [("unicode/utf8.acceptRanges", laid_unicode_utf8_acceptRanges), ("unicode/utf8.first", laid_unicode_utf8_first)] }
def WordTilesSaid : Prop := wordTilesRow.holds Tryd.pinned (OpenSpec.ofChange wordTilesSpec)

/-- ITS FALSE NEIGHBOUR: 'it returns false'. Refute it at one input. -/
def wordTilesWrong : ChangeSpec := { name := "wordTiles", fn := fun _ => fun
  | [d] => { results := [.lit (.bool false)], args := [d] }
  | _ => none }
def WordTilesWrongFalsely : Prop := wordTilesRow.holds Tryd.pinned (OpenSpec.ofChange wordTilesWrong)

/-- 'bodkinlaw05.WordSteps': WHATEVER THE INPUT: true; the input reads as it did. -/
def wordStepsSpec : ChangeSpec := { name := "wordSteps", fn := fun _ => fun
  | [d1, d2] => { results := [.lit (.bool true)], args := [d1, d2] }
  | _ => none }
def wordStepsRow : OpenClaim := { program := "ytkficbgnjpekaaadoor", sum := "1c5670d1b95813f7c8577b8e56688e2f4371069467960c80e9b6b16fc146ad71", func := "bodkin/bodkinlaw05.WordSteps", spec := "wordSteps", unfollowed := true, recurses := true, named := ["unicode/utf8.first", "unicode/utf8.acceptRanges"], apart := false, laid := [("unicode/utf8.acceptRanges", laid_unicode_utf8_acceptRanges), ("unicode/utf8.first", laid_unicode_utf8_first)] }
def WordStepsSaid : Prop := wordStepsRow.holds Tryd.pinned (OpenSpec.ofChange wordStepsSpec)

/-- ITS FALSE NEIGHBOUR: 'it returns false'. Refute it at one input. -/
def wordStepsWrong : ChangeSpec := { name := "wordSteps", fn := fun _ => fun
  | [d1, d2] => { results := [.lit (.bool false)], args := [d1, d2] }
  | _ => none }
def WordStepsWrongFalsely : Prop := wordStepsRow.holds Tryd.pinned (OpenSpec.ofChange wordStepsWrong)

/-- 'bodkinlaw05.WordForms': WHATEVER THE INPUT: true; the input reads as it did. -/
def wordFormsSpec : ChangeSpec := { name := "wordForms", fn := fun _ => fun
  | [d] => { results := [.lit (.bool true)], args := [d] }
  | _ => none }
def wordFormsRow : OpenClaim := { program := "ytkficbgnjpekaaadoor", sum := "1c5670d1b95813f7c8577b8e56688e2f4371069467960c80e9b6b16fc146ad71", func := "bodkin/bodkinlaw05.WordForms", spec := "wordForms", unfollowed := true, recurses := true, named := ["unicode/utf8.first", "unicode/utf8.acceptRanges"], apart := false, laid := [("unicode/utf8.acceptRanges", laid_unicode_utf8_acceptRanges), ("unicode/utf8.first", laid_unicode_utf8_first)] }
def WordFormsSaid : Prop := wordFormsRow.holds Tryd.pinned (OpenSpec.ofChange wordFormsSpec)

/-- ITS FALSE NEIGHBOUR: 'it returns false'. Refute it at one input. -/
def wordFormsWrong : ChangeSpec := { name := "wordForms", fn := fun _ => fun
  | [d] => { results := [.lit (.bool false)], args := [d] }
  | _ => none }
def WordFormsWrongFalsely : Prop := wordFormsRow.holds Tryd.pinned (OpenSpec.ofChange wordFormsWrong)

/-- 'bodkinlaw05.WordCases': WHATEVER THE INPUT: true; the input reads as it did. -/
def wordCasesSpec : ChangeSpec := { name := "wordCases", fn := fun _ => fun
  | [d] => { results := [.lit (.bool true)], args := [d] }
  | _ => none }
def wordCasesRow : OpenClaim := { program := "ytkficbgnjpekaaadoor", sum := "1c5670d1b95813f7c8577b8e56688e2f4371069467960c80e9b6b16fc146ad71", func := "bodkin/bodkinlaw05.WordCases", spec := "wordCases", unfollowed := true, recurses := true, named := ["unicode/utf8.first", "unicode/utf8.acceptRanges"], apart := false, laid := [("unicode/utf8.acceptRanges", laid_unicode_utf8_acceptRanges), ("unicode/utf8.first", laid_unicode_utf8_first)] }
def WordCasesSaid : Prop := wordCasesRow.holds Tryd.pinned (OpenSpec.ofChange wordCasesSpec)

/-- ITS FALSE NEIGHBOUR: 'it returns false'. Refute it at one input. -/
def wordCasesWrong : ChangeSpec := { name := "wordCases", fn := fun _ => fun
  | [d] => { results := [.lit (.bool false)], args := [d] }
  | _ => none }
def WordCasesWrongFalsely : Prop := wordCasesRow.holds Tryd.pinned (OpenSpec.ofChange wordCasesWrong)

/-- 'bodkinlaw05.WordCased': WHATEVER THE INPUT: true; the input reads as it did. -/
def wordCasedSpec : ChangeSpec := { name := "wordCased", fn := fun _ => fun
  | [d] => { results := [.lit (.bool true)], args := [d] }
  | _ => none }
def wordCasedRow : OpenClaim := { program := "ytkficbgnjpekaaadoor", sum := "1c5670d1b95813f7c8577b8e56688e2f4371069467960c80e9b6b16fc146ad71", func := "bodkin/bodkinlaw05.WordCased", spec := "wordCased", unfollowed := true, recurses := true, named := ["unicode/utf8.first", "unicode/utf8.acceptRanges"], apart := false, laid := [("unicode/utf8.acceptRanges", laid_unicode_utf8_acceptRanges), ("unicode/utf8.first", laid_unicode_utf8_first)] }
def WordCasedSaid : Prop := wordCasedRow.holds Tryd.pinned (OpenSpec.ofChange wordCasedSpec)

/-- ITS FALSE NEIGHBOUR: 'it returns false'. Refute it at one input. -/
def wordCasedWrong : ChangeSpec := { name := "wordCased", fn := fun _ => fun
  | [d] => { results := [.lit (.bool false)], args := [d] }
  | _ => none }
def WordCasedWrongFalsely : Prop := wordCasedRow.holds Tryd.pinned (OpenSpec.ofChange wordCasedWrong)

/-- 'bodkinlaw05.WordJoins': WHATEVER THE INPUT: true; the input reads as it did. -/
def wordJoinsSpec : ChangeSpec := { name := "wordJoins", fn := fun _ => fun
  | [d1, d2] => { results := [.lit (.bool true)], args := [d1, d2] }
  | _ => none }
def wordJoinsRow : OpenClaim := { program := "ytkficbgnjpekaaadoor", sum := "1c5670d1b95813f7c8577b8e56688e2f4371069467960c80e9b6b16fc146ad71", func := "bodkin/bodkinlaw05.WordJoins", spec := "wordJoins", unfollowed := true, recurses := true, named := ["unicode/utf8.first", "unicode/utf8.acceptRanges"], apart := false, laid := [("unicode/utf8.acceptRanges", laid_unicode_utf8_acceptRanges), ("unicode/utf8.first", laid_unicode_utf8_first)] }
def WordJoinsSaid : Prop := wordJoinsRow.holds Tryd.pinned (OpenSpec.ofChange wordJoinsSpec)

/-- ITS FALSE NEIGHBOUR: 'it returns false'. Refute it at one input. -/
def wordJoinsWrong : ChangeSpec := { name := "wordJoins", fn := fun _ => fun
  | [d1, d2] => { results := [.lit (.bool false)], args := [d1, d2] }
  | _ => none }
def WordJoinsWrongFalsely : Prop := wordJoinsRow.holds Tryd.pinned (OpenSpec.ofChange wordJoinsWrong)

/- THE SECOND FORM. 'bulk': how many values and letters a reading holds, each counted each time it is reached (what is shared counts as often as it is met; a slice's spare places count too). A statement '..UptoSaid' is the law's where the arguments, and the package variables that the reading takes, are together of bulk at most 1048576: NARROWER than '..Said'. Prove '..Said' where nothing that the law and all that it calls make is longer than what came in: it says more and counts as full. Else prove '..UptoSaid'. A law counts once. -/
mutual
def uptoBulk {H : Type} : DataW H → Nat
  | .lit (.string bytes) => bytes.length + 1
  | .lit _ => 1
  | .nil => 1
  | .ptr d => uptoBulk d + 1
  | .slice elems spare => uptoBulkAll elems + uptoBulkAll spare + 1
  | .agg parts => uptoBulkAll parts + 1
  | .iface _ d => uptoBulk d + 1
  | .map entries => uptoBulkEntries entries + 1
  | .held _ => 1
def uptoBulkAll {H : Type} : List (DataW H) → Nat
  | [] => 0
  | d :: r => uptoBulk d + uptoBulkAll r
def uptoBulkEntries {H : Type} : List (Lit × DataW H) → Nat
  | [] => 0
  | x :: r => uptoBulkEntry x + uptoBulkEntries r
def uptoBulkEntry {H : Type} : Lit × DataW H → Nat
  | (.string bytes, d) => bytes.length + uptoBulk d + 1
  | (_, d) => uptoBulk d + 1
 end
def uptoSmall : (H : Type) → List (DataW H) → Bool := fun _ ds => decide (uptoBulkAll ds ≤ 1048576)
def OpenSpec.upto (s : _root_.Go.ChangeSpec) : _root_.Go.OpenSpec := { _root_.Go.OpenSpec.ofChange s with cond := some uptoSmall }

/-- 'bodkinlaw05.WordChars', WHERE WHAT IT READS IS OF BULK AT MOST 1048576: true; the input reads as it did. -/
def wordCharsUptoRow : OpenClaim := { program := "ytkficbgnjpekaaadoor", sum := "1c5670d1b95813f7c8577b8e56688e2f4371069467960c80e9b6b16fc146ad71", func := "bodkin/bodkinlaw05.WordChars", spec := "wordChars", unfollowed := true, recurses := true, named := ["unicode/utf8.first", "unicode/utf8.acceptRanges"], apart := false, laid := [("unicode/utf8.acceptRanges", laid_unicode_utf8_acceptRanges), ("unicode/utf8.first", laid_unicode_utf8_first)], narrowed := true }
def WordCharsUptoSaid : Prop := wordCharsUptoRow.holds Tryd.pinned (OpenSpec.upto wordCharsSpec)

/-- 'bodkinlaw05.WordSpans', WHERE WHAT IT READS IS OF BULK AT MOST 1048576: true; the input reads as it did. -/
def wordSpansUptoRow : OpenClaim := { program := "ytkficbgnjpekaaadoor", sum := "1c5670d1b95813f7c8577b8e56688e2f4371069467960c80e9b6b16fc146ad71", func := "bodkin/bodkinlaw05.WordSpans", spec := "wordSpans", unfollowed := true, recurses := true, named := ["unicode/utf8.first", "unicode/utf8.acceptRanges"], apart := false, laid := [("unicode/utf8.acceptRanges", laid_unicode_utf8_acceptRanges), ("unicode/utf8.first", laid_unicode_utf8_first)], narrowed := true }
def WordSpansUptoSaid : Prop := wordSpansUptoRow.holds Tryd.pinned (OpenSpec.upto wordSpansSpec)

/-- 'bodkinlaw05.WordMoves', WHERE WHAT IT READS IS OF BULK AT MOST 1048576: true; the input reads as it did. -/
def wordMovesUptoRow : OpenClaim := { program := "ytkficbgnjpekaaadoor", sum := "1c5670d1b95813f7c8577b8e56688e2f4371069467960c80e9b6b16fc146ad71", func := "bodkin/bodkinlaw05.WordMoves", spec := "wordMoves", unfollowed := true, recurses := true, named := ["unicode/utf8.first", "unicode/utf8.acceptRanges"], apart := false, laid := [("unicode/utf8.acceptRanges", laid_unicode_utf8_acceptRanges), ("unicode/utf8.first", laid_unicode_utf8_first)], narrowed := true }
def WordMovesUptoSaid : Prop := wordMovesUptoRow.holds Tryd.pinned (OpenSpec.upto wordMovesSpec)

/-- 'bodkinlaw05.WordTiles', WHERE WHAT IT READS IS OF BULK AT MOST 1048576: true; the input reads as it did. -/
def wordTilesUptoRow : OpenClaim := { program := "ytkficbgnjpekaaadoor", sum := "1c5670d1b95813f7c8577b8e56688e2f4371069467960c80e9b6b16fc146ad71", func := "bodkin/bodkinlaw05.WordTiles", spec := "wordTiles", unfollowed := true, recurses := true, named := ["unicode/utf8.first", "unicode/utf8.acceptRanges"], apart := false, laid := [("unicode/utf8.acceptRanges", laid_unicode_utf8_acceptRanges), ("unicode/utf8.first", laid_unicode_utf8_first)], narrowed := true }
def WordTilesUptoSaid : Prop := wordTilesUptoRow.holds Tryd.pinned (OpenSpec.upto wordTilesSpec)

/-- 'bodkinlaw05.WordSteps', WHERE WHAT IT READS IS OF BULK AT MOST 1048576: true; the input reads as it did. -/
def wordStepsUptoRow : OpenClaim := { program := "ytkficbgnjpekaaadoor", sum := "1c5670d1b95813f7c8577b8e56688e2f4371069467960c80e9b6b16fc146ad71", func := "bodkin/bodkinlaw05.WordSteps", spec := "wordSteps", unfollowed := true, recurses := true, named := ["unicode/utf8.first", "unicode/utf8.acceptRanges"], apart := false, laid := [("unicode/utf8.acceptRanges", laid_unicode_utf8_acceptRanges), ("unicode/utf8.first", laid_unicode_utf8_first)], narrowed := true }
def WordStepsUptoSaid : Prop := wordStepsUptoRow.holds Tryd.pinned (OpenSpec.upto wordStepsSpec)

/-- 'bodkinlaw05.WordForms', WHERE WHAT IT READS IS OF BULK AT MOST 1048576: true; the input reads as it did. -/
def wordFormsUptoRow : OpenClaim := { program := "ytkficbgnjpekaaadoor", sum := "1c5670d1b95813f7c8577b8e56688e2f4371069467960c80e9b6b16fc146ad71", func := "bodkin/bodkinlaw05.WordForms", spec := "wordForms", unfollowed := true, recurses := true, named := ["unicode/utf8.first", "unicode/utf8.acceptRanges"], apart := false, laid := [("unicode/utf8.acceptRanges", laid_unicode_utf8_acceptRanges), ("unicode/utf8.first", laid_unicode_utf8_first)], narrowed := true }
def WordFormsUptoSaid : Prop := wordFormsUptoRow.holds Tryd.pinned (OpenSpec.upto wordFormsSpec)

/-- 'bodkinlaw05.WordCases', WHERE WHAT IT READS IS OF BULK AT MOST 1048576: true; the input reads as it did. -/
def wordCasesUptoRow : OpenClaim := { program := "ytkficbgnjpekaaadoor", sum := "1c5670d1b95813f7c8577b8e56688e2f4371069467960c80e9b6b16fc146ad71", func := "bodkin/bodkinlaw05.WordCases", spec := "wordCases", unfollowed := true, recurses := true, named := ["unicode/utf8.first", "unicode/utf8.acceptRanges"], apart := false, laid := [("unicode/utf8.acceptRanges", laid_unicode_utf8_acceptRanges), ("unicode/utf8.first", laid_unicode_utf8_first)], narrowed := true }
def WordCasesUptoSaid : Prop := wordCasesUptoRow.holds Tryd.pinned (OpenSpec.upto wordCasesSpec)

/-- 'bodkinlaw05.WordCased', WHERE WHAT IT READS IS OF BULK AT MOST 1048576: true; the input reads as it did. -/
def wordCasedUptoRow : OpenClaim := { program := "ytkficbgnjpekaaadoor", sum := "1c5670d1b95813f7c8577b8e56688e2f4371069467960c80e9b6b16fc146ad71", func := "bodkin/bodkinlaw05.WordCased", spec := "wordCased", unfollowed := true, recurses := true, named := ["unicode/utf8.first", "unicode/utf8.acceptRanges"], apart := false, laid := [("unicode/utf8.acceptRanges", laid_unicode_utf8_acceptRanges), ("unicode/utf8.first", laid_unicode_utf8_first)], narrowed := true }
def WordCasedUptoSaid : Prop := wordCasedUptoRow.holds Tryd.pinned (OpenSpec.upto wordCasedSpec)

/-- 'bodkinlaw05.WordJoins', WHERE WHAT IT READS IS OF BULK AT MOST 1048576: true; the input reads as it did. -/
def wordJoinsUptoRow : OpenClaim := { program := "ytkficbgnjpekaaadoor", sum := "1c5670d1b95813f7c8577b8e56688e2f4371069467960c80e9b6b16fc146ad71", func := "bodkin/bodkinlaw05.WordJoins", spec := "wordJoins", unfollowed := true, recurses := true, named := ["unicode/utf8.first", "unicode/utf8.acceptRanges"], apart := false, laid := [("unicode/utf8.acceptRanges", laid_unicode_utf8_acceptRanges), ("unicode/utf8.first", laid_unicode_utf8_first)], narrowed := true }
def WordJoinsUptoSaid : Prop := wordJoinsUptoRow.holds Tryd.pinned (OpenSpec.upto wordJoinsSpec)

end Rows
end Go.Proofs.YtkficbgnjpekaaaDoor
