/-
  NARROWER THAN 'FOR EVERY INPUT', by the rows' own cells (each row's printed sentence says how): ScreenShows: laid · ScreenPieces: laid · ScreenWipes: laid · ScreenFresh: laid · ScreenAll: laid · ScreenGrids: laid · ScreenEnds: laid · ScreenTypes: laid · ScreenFeeds: laid · ScreenNone: laid.
  DERIVED. THE GIVEN ROWS OF THIS SEAT. 10 by the template 'for every input the law returns true; each argument reads behind the call as it read before'; 0 by the template 'total and deterministic' (their statements: YtgdpnmikcopkmaaDoorTotals.lean).
  GIVEN WITH THE SEED: the statements are not yours to turn. If you find one false, say at which input.
  Laid BY PROGRAM, IN A SANDBOX (cutbox-rows.mjs): the forced cells as the released guide's own fill.sh prints them over the translation ed8ce9f9ca634979… (all of the seat's roots in one cut). By AI agents, Wed Nov 11 2026. No macro, syntax, notation, axiom, sorry.
-/
import Derived.Test.YtgdpnmikcopkmaaDoorChecked
import GoSem.PinnedTables
import GoSem.Claim
import GoSem.ClaimJoined
import GoSem.ClaimMapViews
import Derived.JoinedTies
import Derived.KernelRfl
namespace Go.Proofs.YtgdpnmikcopkmaaDoor
/- THE CELL 'sum', in the pinned program and in every row, IS THE sha256 OF THE DUMP (.gsa) THAT YtgdpnmikcopkmaaDoorProg.lean LOADS. Nothing in Lean hashes anything: it is a label: what it is worth is what the hold of that sum in a sandbox is worth. -/
noncomputable def Tryd.pinned : Pinned := { name := "ytgdpnmikcopkmaadoor", sum := "ed8ce9f9ca6349798602602a5d3a24e340c94bc9f43e8425644235b224e45568", checked := Tryd.checked }
namespace Rows
def none {H : Type} : Left H := { results := [], args := [] }

/- WHAT THE LISTED PACKAGE-LEVEL VARIABLES READ AS WHEN THE CALL BEGINS. Each datum BY PROGRAM (the guide's laid-datum.mjs) off the statement by which the dump's own 'gosem.cut.vars' lays the variable. In a bare row this is a premise. The card (YtgdpnmikcopkmaaDoorCards.lean) ties it to the program's text. -/
def laid_unicode_utf8_acceptRanges {H : Type} : DataW H := .agg [.agg [.lit (.int .u8 128), .lit (.int .u8 191)], .agg [.lit (.int .u8 160), .lit (.int .u8 191)], .agg [.lit (.int .u8 128), .lit (.int .u8 159)], .agg [.lit (.int .u8 144), .lit (.int .u8 191)], .agg [.lit (.int .u8 128), .lit (.int .u8 143)], .agg [.lit (.int .u8 0), .lit (.int .u8 0)], .agg [.lit (.int .u8 0), .lit (.int .u8 0)], .agg [.lit (.int .u8 0), .lit (.int .u8 0)], .agg [.lit (.int .u8 0), .lit (.int .u8 0)], .agg [.lit (.int .u8 0), .lit (.int .u8 0)], .agg [.lit (.int .u8 0), .lit (.int .u8 0)], .agg [.lit (.int .u8 0), .lit (.int .u8 0)], .agg [.lit (.int .u8 0), .lit (.int .u8 0)], .agg [.lit (.int .u8 0), .lit (.int .u8 0)], .agg [.lit (.int .u8 0), .lit (.int .u8 0)], .agg [.lit (.int .u8 0), .lit (.int .u8 0)]]
/-- One of Go's own tables, pinned by name: the form's constant. -/
def laid_unicode_utf8_first : DataW Unit := Go.Pinned.utf8First

/-- 'bodkinlaw22.ScreenShows': WHATEVER THE INPUT: true; the input reads as it did. -/
def screenShowsSpec : ChangeSpec := { name := "screenShows", fn := fun _ => fun
  | [d1, d2, d3, d4, d5] => { results := [.lit (.bool true)], args := [d1, d2, d3, d4, d5] }
  | _ => none }
def screenShowsRow : OpenClaim := { program := "ytgdpnmikcopkmaadoor", sum := "ed8ce9f9ca6349798602602a5d3a24e340c94bc9f43e8425644235b224e45568", func := "bodkin/bodkinlaw22.ScreenShows", spec := "screenShows", unfollowed := true, recurses := true, named := ["unicode/utf8.first", "unicode/utf8.acceptRanges"], apart := false, laid := [("unicode/utf8.acceptRanges", laid_unicode_utf8_acceptRanges), ("unicode/utf8.first", laid_unicode_utf8_first)] }
def ScreenShowsSaid : Prop := screenShowsRow.holds Tryd.pinned (OpenSpec.ofChange screenShowsSpec)

/-- ITS FALSE NEIGHBOUR: 'it returns false'. Refute it at one input. -/
def screenShowsWrong : ChangeSpec := { name := "screenShows", fn := fun _ => fun
  | [d1, d2, d3, d4, d5] => { results := [.lit (.bool false)], args := [d1, d2, d3, d4, d5] }
  | _ => none }
def ScreenShowsWrongFalsely : Prop := screenShowsRow.holds Tryd.pinned (OpenSpec.ofChange screenShowsWrong)

/-- 'bodkinlaw22.ScreenPieces': WHATEVER THE INPUT: true; the input reads as it did. -/
def screenPiecesSpec : ChangeSpec := { name := "screenPieces", fn := fun _ => fun
  | [d1, d2, d3, d4, d5] => { results := [.lit (.bool true)], args := [d1, d2, d3, d4, d5] }
  | _ => none }
def screenPiecesRow : OpenClaim := { program := "ytgdpnmikcopkmaadoor", sum := "ed8ce9f9ca6349798602602a5d3a24e340c94bc9f43e8425644235b224e45568", func := "bodkin/bodkinlaw22.ScreenPieces", spec := "screenPieces", unfollowed := true, recurses := true, named := ["unicode/utf8.first", "unicode/utf8.acceptRanges"], apart := false, laid := [("unicode/utf8.acceptRanges", laid_unicode_utf8_acceptRanges), ("unicode/utf8.first", laid_unicode_utf8_first)] }
def ScreenPiecesSaid : Prop := screenPiecesRow.holds Tryd.pinned (OpenSpec.ofChange screenPiecesSpec)

/-- ITS FALSE NEIGHBOUR: 'it returns false'. Refute it at one input. -/
def screenPiecesWrong : ChangeSpec := { name := "screenPieces", fn := fun _ => fun
  | [d1, d2, d3, d4, d5] => { results := [.lit (.bool false)], args := [d1, d2, d3, d4, d5] }
  | _ => none }
def ScreenPiecesWrongFalsely : Prop := screenPiecesRow.holds Tryd.pinned (OpenSpec.ofChange screenPiecesWrong)

/-- 'bodkinlaw22.ScreenWipes': WHATEVER THE INPUT: true; the input reads as it did. -/
def screenWipesSpec : ChangeSpec := { name := "screenWipes", fn := fun _ => fun
  | [d1, d2, d3, d4] => { results := [.lit (.bool true)], args := [d1, d2, d3, d4] }
  | _ => none }
def screenWipesRow : OpenClaim := { program := "ytgdpnmikcopkmaadoor", sum := "ed8ce9f9ca6349798602602a5d3a24e340c94bc9f43e8425644235b224e45568", func := "bodkin/bodkinlaw22.ScreenWipes", spec := "screenWipes", unfollowed := true, recurses := true, named := ["unicode/utf8.first", "unicode/utf8.acceptRanges"], apart := false, laid := [("unicode/utf8.acceptRanges", laid_unicode_utf8_acceptRanges), ("unicode/utf8.first", laid_unicode_utf8_first)] }
def ScreenWipesSaid : Prop := screenWipesRow.holds Tryd.pinned (OpenSpec.ofChange screenWipesSpec)

/-- ITS FALSE NEIGHBOUR: 'it returns false'. Refute it at one input. -/
def screenWipesWrong : ChangeSpec := { name := "screenWipes", fn := fun _ => fun
  | [d1, d2, d3, d4] => { results := [.lit (.bool false)], args := [d1, d2, d3, d4] }
  | _ => none }
def ScreenWipesWrongFalsely : Prop := screenWipesRow.holds Tryd.pinned (OpenSpec.ofChange screenWipesWrong)

/-- 'bodkinlaw22.ScreenFresh': WHATEVER THE INPUT: true; the input reads as it did. -/
def screenFreshSpec : ChangeSpec := { name := "screenFresh", fn := fun _ => fun
  | [d1, d2, d3, d4] => { results := [.lit (.bool true)], args := [d1, d2, d3, d4] }
  | _ => none }
def screenFreshRow : OpenClaim := { program := "ytgdpnmikcopkmaadoor", sum := "ed8ce9f9ca6349798602602a5d3a24e340c94bc9f43e8425644235b224e45568", func := "bodkin/bodkinlaw22.ScreenFresh", spec := "screenFresh", unfollowed := true, recurses := true, named := ["unicode/utf8.first", "unicode/utf8.acceptRanges"], apart := false, laid := [("unicode/utf8.acceptRanges", laid_unicode_utf8_acceptRanges), ("unicode/utf8.first", laid_unicode_utf8_first)] }
def ScreenFreshSaid : Prop := screenFreshRow.holds Tryd.pinned (OpenSpec.ofChange screenFreshSpec)

/-- ITS FALSE NEIGHBOUR: 'it returns false'. Refute it at one input. -/
def screenFreshWrong : ChangeSpec := { name := "screenFresh", fn := fun _ => fun
  | [d1, d2, d3, d4] => { results := [.lit (.bool false)], args := [d1, d2, d3, d4] }
  | _ => none }
def ScreenFreshWrongFalsely : Prop := screenFreshRow.holds Tryd.pinned (OpenSpec.ofChange screenFreshWrong)

/-- 'bodkinlaw22.ScreenAll': WHATEVER THE INPUT: true; the input reads as it did. -/
def screenAllSpec : ChangeSpec := { name := "screenAll", fn := fun _ => fun
  | [d1, d2, d3] => { results := [.lit (.bool true)], args := [d1, d2, d3] }
  | _ => none }
def screenAllRow : OpenClaim := { program := "ytgdpnmikcopkmaadoor", sum := "ed8ce9f9ca6349798602602a5d3a24e340c94bc9f43e8425644235b224e45568", func := "bodkin/bodkinlaw22.ScreenAll", spec := "screenAll", unfollowed := true, recurses := true, named := ["unicode/utf8.first", "unicode/utf8.acceptRanges"], apart := false, laid := [("unicode/utf8.acceptRanges", laid_unicode_utf8_acceptRanges), ("unicode/utf8.first", laid_unicode_utf8_first)] }
def ScreenAllSaid : Prop := screenAllRow.holds Tryd.pinned (OpenSpec.ofChange screenAllSpec)

/-- ITS FALSE NEIGHBOUR: 'it returns false'. Refute it at one input. -/
def screenAllWrong : ChangeSpec := { name := "screenAll", fn := fun _ => fun
  | [d1, d2, d3] => { results := [.lit (.bool false)], args := [d1, d2, d3] }
  | _ => none }
def ScreenAllWrongFalsely : Prop := screenAllRow.holds Tryd.pinned (OpenSpec.ofChange screenAllWrong)

/-- 'bodkinlaw22.ScreenGrids': WHATEVER THE INPUT: true; the input reads as it did. -/
def screenGridsSpec : ChangeSpec := { name := "screenGrids", fn := fun _ => fun
  | [d1, d2, d3] => { results := [.lit (.bool true)], args := [d1, d2, d3] }
  | _ => none }
def screenGridsRow : OpenClaim := { program := "ytgdpnmikcopkmaadoor", sum := "ed8ce9f9ca6349798602602a5d3a24e340c94bc9f43e8425644235b224e45568", func := "bodkin/bodkinlaw22.ScreenGrids", spec := "screenGrids", unfollowed := true, recurses := true, named := ["unicode/utf8.first", "unicode/utf8.acceptRanges"], apart := false, laid := [("unicode/utf8.acceptRanges", laid_unicode_utf8_acceptRanges), ("unicode/utf8.first", laid_unicode_utf8_first)] }
def ScreenGridsSaid : Prop := screenGridsRow.holds Tryd.pinned (OpenSpec.ofChange screenGridsSpec)

/-- ITS FALSE NEIGHBOUR: 'it returns false'. Refute it at one input. -/
def screenGridsWrong : ChangeSpec := { name := "screenGrids", fn := fun _ => fun
  | [d1, d2, d3] => { results := [.lit (.bool false)], args := [d1, d2, d3] }
  | _ => none }
def ScreenGridsWrongFalsely : Prop := screenGridsRow.holds Tryd.pinned (OpenSpec.ofChange screenGridsWrong)

/-- 'bodkinlaw22.ScreenEnds': WHATEVER THE INPUT: true; the input reads as it did. -/
def screenEndsSpec : ChangeSpec := { name := "screenEnds", fn := fun _ => fun
  | [d1, d2, d3, d4] => { results := [.lit (.bool true)], args := [d1, d2, d3, d4] }
  | _ => none }
def screenEndsRow : OpenClaim := { program := "ytgdpnmikcopkmaadoor", sum := "ed8ce9f9ca6349798602602a5d3a24e340c94bc9f43e8425644235b224e45568", func := "bodkin/bodkinlaw22.ScreenEnds", spec := "screenEnds", unfollowed := true, recurses := true, named := ["unicode/utf8.first", "unicode/utf8.acceptRanges"], apart := false, laid := [("unicode/utf8.acceptRanges", laid_unicode_utf8_acceptRanges), ("unicode/utf8.first", laid_unicode_utf8_first)] }
def ScreenEndsSaid : Prop := screenEndsRow.holds Tryd.pinned (OpenSpec.ofChange screenEndsSpec)

/-- ITS FALSE NEIGHBOUR: 'it returns false'. Refute it at one input. -/
def screenEndsWrong : ChangeSpec := { name := "screenEnds", fn := fun _ => fun
  | [d1, d2, d3, d4] => { results := [.lit (.bool false)], args := [d1, d2, d3, d4] }
  | _ => none }
def ScreenEndsWrongFalsely : Prop := screenEndsRow.holds Tryd.pinned (OpenSpec.ofChange screenEndsWrong)

/-- 'bodkinlaw22.ScreenTypes': WHATEVER THE INPUT: true; the input reads as it did. -/
def screenTypesSpec : ChangeSpec := { name := "screenTypes", fn := fun _ => fun
  | [d1, d2] => { results := [.lit (.bool true)], args := [d1, d2] }
  | _ => none }
def screenTypesRow : OpenClaim := { program := "ytgdpnmikcopkmaadoor", sum := "ed8ce9f9ca6349798602602a5d3a24e340c94bc9f43e8425644235b224e45568", func := "bodkin/bodkinlaw22.ScreenTypes", spec := "screenTypes", unfollowed := true, recurses := true, named := ["unicode/utf8.first", "unicode/utf8.acceptRanges"], apart := false, laid := [("unicode/utf8.acceptRanges", laid_unicode_utf8_acceptRanges), ("unicode/utf8.first", laid_unicode_utf8_first)] }
def ScreenTypesSaid : Prop := screenTypesRow.holds Tryd.pinned (OpenSpec.ofChange screenTypesSpec)

/-- ITS FALSE NEIGHBOUR: 'it returns false'. Refute it at one input. -/
def screenTypesWrong : ChangeSpec := { name := "screenTypes", fn := fun _ => fun
  | [d1, d2] => { results := [.lit (.bool false)], args := [d1, d2] }
  | _ => none }
def ScreenTypesWrongFalsely : Prop := screenTypesRow.holds Tryd.pinned (OpenSpec.ofChange screenTypesWrong)

/-- 'bodkinlaw22.ScreenFeeds': WHATEVER THE INPUT: true; the input reads as it did. -/
def screenFeedsSpec : ChangeSpec := { name := "screenFeeds", fn := fun _ => fun
  | [d1, d2, d3, d4] => { results := [.lit (.bool true)], args := [d1, d2, d3, d4] }
  | _ => none }
def screenFeedsRow : OpenClaim := { program := "ytgdpnmikcopkmaadoor", sum := "ed8ce9f9ca6349798602602a5d3a24e340c94bc9f43e8425644235b224e45568", func := "bodkin/bodkinlaw22.ScreenFeeds", spec := "screenFeeds", unfollowed := true, recurses := true, named := ["unicode/utf8.first", "unicode/utf8.acceptRanges"], apart := false, laid := [("unicode/utf8.acceptRanges", laid_unicode_utf8_acceptRanges), ("unicode/utf8.first", laid_unicode_utf8_first)] }
def ScreenFeedsSaid : Prop := screenFeedsRow.holds Tryd.pinned (OpenSpec.ofChange screenFeedsSpec)

/-- ITS FALSE NEIGHBOUR: 'it returns false'. Refute it at one input. -/
def screenFeedsWrong : ChangeSpec := { name := "screenFeeds", fn := fun _ => fun
  | [d1, d2, d3, d4] => { results := [.lit (.bool false)], args := [d1, d2, d3, d4] }
  | _ => none }
def ScreenFeedsWrongFalsely : Prop := screenFeedsRow.holds Tryd.pinned (OpenSpec.ofChange screenFeedsWrong)

/-- 'bodkinlaw22.ScreenNone': WHATEVER THE INPUT: true; the input reads as it did. -/
def screenNoneSpec : ChangeSpec := { name := "screenNone", fn := fun _ => fun
  | [d1, d2, d3] => { results := [.lit (.bool true)], args := [d1, d2, d3] }
  | _ => none }
def screenNoneRow : OpenClaim := { program := "ytgdpnmikcopkmaadoor", sum := "ed8ce9f9ca6349798602602a5d3a24e340c94bc9f43e8425644235b224e45568", func := "bodkin/bodkinlaw22.ScreenNone", spec := "screenNone", unfollowed := true, recurses := true, named := ["unicode/utf8.first", "unicode/utf8.acceptRanges"], apart := false, laid := [("unicode/utf8.acceptRanges", laid_unicode_utf8_acceptRanges), ("unicode/utf8.first", laid_unicode_utf8_first)] }
def ScreenNoneSaid : Prop := screenNoneRow.holds Tryd.pinned (OpenSpec.ofChange screenNoneSpec)

/-- ITS FALSE NEIGHBOUR: 'it returns false'. Refute it at one input. -/
def screenNoneWrong : ChangeSpec := { name := "screenNone", fn := fun _ => fun
  | [d1, d2, d3] => { results := [.lit (.bool false)], args := [d1, d2, d3] }
  | _ => none }
def ScreenNoneWrongFalsely : Prop := screenNoneRow.holds Tryd.pinned (OpenSpec.ofChange screenNoneWrong)

/- THE SECOND FORM. 'bulk': how many values and letters a reading holds, each counted each time it is reached (what is shared counts as often as it is met; a slice's spare places count too). A statement '..UptoSaid' is the law's where the arguments, and the package variables that the reading takes, are together of bulk at most 1048576: NARROWER than '..Said'. Prove '..Said' where nothing that the law and all that it calls make is longer than what came in: it says more and counts as full. Else prove '..UptoSaid'. A law counts once. -/
mutual
def uptoBulk {H : Type} : DataW H → Nat
  | .lit (.string bytes) => bytes.length + 1
  | .lit _ => 1
  | .nil => 1
  | .ptr d => uptoBulk d + 1
  | .slice elems spare => uptoBulkAll elems + uptoBulkAll spare + 1
  | .agg parts => uptoBulkAll parts + 1
  | .iface _ d => uptoBulk d + 1
  | .map entries => uptoBulkEntries entries + 1
  | .held _ => 1
def uptoBulkAll {H : Type} : List (DataW H) → Nat
  | [] => 0
  | d :: r => uptoBulk d + uptoBulkAll r
def uptoBulkEntries {H : Type} : List (Lit × DataW H) → Nat
  | [] => 0
  | x :: r => uptoBulkEntry x + uptoBulkEntries r
def uptoBulkEntry {H : Type} : Lit × DataW H → Nat
  | (.string bytes, d) => bytes.length + uptoBulk d + 1
  | (_, d) => uptoBulk d + 1
 end
def uptoSmall : (H : Type) → List (DataW H) → Bool := fun _ ds => decide (uptoBulkAll ds ≤ 1048576)
def OpenSpec.upto (s : _root_.Go.ChangeSpec) : _root_.Go.OpenSpec := { _root_.Go.OpenSpec.ofChange s with cond := some uptoSmall }

/-- 'bodkinlaw22.ScreenShows', WHERE WHAT IT READS IS OF BULK AT MOST 1048576: true; the input reads as it did. -/
def screenShowsUptoRow : OpenClaim := { program := "ytgdpnmikcopkmaadoor", sum := "ed8ce9f9ca6349798602602a5d3a24e340c94bc9f43e8425644235b224e45568", func := "bodkin/bodkinlaw22.ScreenShows", spec := "screenShows", unfollowed := true, recurses := true, named := ["unicode/utf8.first", "unicode/utf8.acceptRanges"], apart := false, laid := [("unicode/utf8.acceptRanges", laid_unicode_utf8_acceptRanges), ("unicode/utf8.first", laid_unicode_utf8_first)], narrowed := true }
def ScreenShowsUptoSaid : Prop := screenShowsUptoRow.holds Tryd.pinned (OpenSpec.upto screenShowsSpec)

/-- 'bodkinlaw22.ScreenPieces', WHERE WHAT IT READS IS OF BULK AT MOST 1048576: true; the input reads as it did. -/
def screenPiecesUptoRow : OpenClaim := { program := "ytgdpnmikcopkmaadoor", sum := "ed8ce9f9ca6349798602602a5d3a24e340c94bc9f43e8425644235b224e45568", func := "bodkin/bodkinlaw22.ScreenPieces", spec := "screenPieces", unfollowed := true, recurses := true, named := ["unicode/utf8.first", "unicode/utf8.acceptRanges"], apart := false, laid := [("unicode/utf8.acceptRanges", laid_unicode_utf8_acceptRanges), ("unicode/utf8.first", laid_unicode_utf8_first)], narrowed := true }
def ScreenPiecesUptoSaid : Prop := screenPiecesUptoRow.holds Tryd.pinned (OpenSpec.upto screenPiecesSpec)

/-- 'bodkinlaw22.ScreenWipes', WHERE WHAT IT READS IS OF BULK AT MOST 1048576: true; the input reads as it did. -/
def screenWipesUptoRow : OpenClaim := { program := "ytgdpnmikcopkmaadoor", sum := "ed8ce9f9ca6349798602602a5d3a24e340c94bc9f43e8425644235b224e45568", func := "bodkin/bodkinlaw22.ScreenWipes", spec := "screenWipes", unfollowed := true, recurses := true, named := ["unicode/utf8.first", "unicode/utf8.acceptRanges"], apart := false, laid := [("unicode/utf8.acceptRanges", laid_unicode_utf8_acceptRanges), ("unicode/utf8.first", laid_unicode_utf8_first)], narrowed := true }
def ScreenWipesUptoSaid : Prop := screenWipesUptoRow.holds Tryd.pinned (OpenSpec.upto screenWipesSpec)

/-- 'bodkinlaw22.ScreenFresh', WHERE WHAT IT READS IS OF BULK AT MOST 1048576: true; the input reads as it did. -/
def screenFreshUptoRow : OpenClaim := { program := "ytgdpnmikcopkmaadoor", sum := "ed8ce9f9ca6349798602602a5d3a24e340c94bc9f43e8425644235b224e45568", func := "bodkin/bodkinlaw22.ScreenFresh", spec := "screenFresh", unfollowed := true, recurses := true, named := ["unicode/utf8.first", "unicode/utf8.acceptRanges"], apart := false, laid := [("unicode/utf8.acceptRanges", laid_unicode_utf8_acceptRanges), ("unicode/utf8.first", laid_unicode_utf8_first)], narrowed := true }
def ScreenFreshUptoSaid : Prop := screenFreshUptoRow.holds Tryd.pinned (OpenSpec.upto screenFreshSpec)

/-- 'bodkinlaw22.ScreenAll', WHERE WHAT IT READS IS OF BULK AT MOST 1048576: true; the input reads as it did. -/
def screenAllUptoRow : OpenClaim := { program := "ytgdpnmikcopkmaadoor", sum := "ed8ce9f9ca6349798602602a5d3a24e340c94bc9f43e8425644235b224e45568", func := "bodkin/bodkinlaw22.ScreenAll", spec := "screenAll", unfollowed := true, recurses := true, named := ["unicode/utf8.first", "unicode/utf8.acceptRanges"], apart := false, laid := [("unicode/utf8.acceptRanges", laid_unicode_utf8_acceptRanges), ("unicode/utf8.first", laid_unicode_utf8_first)], narrowed := true }
def ScreenAllUptoSaid : Prop := screenAllUptoRow.holds Tryd.pinned (OpenSpec.upto screenAllSpec)

/-- 'bodkinlaw22.ScreenGrids', WHERE WHAT IT READS IS OF BULK AT MOST 1048576: true; the input reads as it did. -/
def screenGridsUptoRow : OpenClaim := { program := "ytgdpnmikcopkmaadoor", sum := "ed8ce9f9ca6349798602602a5d3a24e340c94bc9f43e8425644235b224e45568", func := "bodkin/bodkinlaw22.ScreenGrids", spec := "screenGrids", unfollowed := true, recurses := true, named := ["unicode/utf8.first", "unicode/utf8.acceptRanges"], apart := false, laid := [("unicode/utf8.acceptRanges", laid_unicode_utf8_acceptRanges), ("unicode/utf8.first", laid_unicode_utf8_first)], narrowed := true }
def ScreenGridsUptoSaid : Prop := screenGridsUptoRow.holds Tryd.pinned (OpenSpec.upto screenGridsSpec)

/-- 'bodkinlaw22.ScreenEnds', WHERE WHAT IT READS IS OF BULK AT MOST 1048576: true; the input reads as it did. -/
def screenEndsUptoRow : OpenClaim := { program := "ytgdpnmikcopkmaadoor", sum := "ed8ce9f9ca6349798602602a5d3a24e340c94bc9f43e8425644235b224e45568", func := "bodkin/bodkinlaw22.ScreenEnds", spec := "screenEnds", unfollowed := true, recurses := true, named := ["unicode/utf8.first", "unicode/utf8.acceptRanges"], apart := false, laid := [("unicode/utf8.acceptRanges", laid_unicode_utf8_acceptRanges), ("unicode/utf8.first", laid_unicode_utf8_first)], narrowed := true }
def ScreenEndsUptoSaid : Prop := screenEndsUptoRow.holds Tryd.pinned (OpenSpec.upto screenEndsSpec)

/-- 'bodkinlaw22.ScreenTypes', WHERE WHAT IT READS IS OF BULK AT MOST 1048576: true; the input reads as it did. -/
def screenTypesUptoRow : OpenClaim := { program := "ytgdpnmikcopkmaadoor", sum := "ed8ce9f9ca6349798602602a5d3a24e340c94bc9f43e8425644235b224e45568", func := "bodkin/bodkinlaw22.ScreenTypes", spec := "screenTypes", unfollowed := true, recurses := true, named := ["unicode/utf8.first", "unicode/utf8.acceptRanges"], apart := false, laid := [("unicode/utf8.acceptRanges", laid_unicode_utf8_acceptRanges), ("unicode/utf8.first", laid_unicode_utf8_first)], narrowed := true }
def ScreenTypesUptoSaid : Prop := screenTypesUptoRow.holds Tryd.pinned (OpenSpec.upto screenTypesSpec)

/-- 'bodkinlaw22.ScreenFeeds', WHERE WHAT IT READS IS OF BULK AT MOST 1048576: true; the input reads as it did. -/
def screenFeedsUptoRow : OpenClaim := { program := "ytgdpnmikcopkmaadoor", sum := "ed8ce9f9ca6349798602602a5d3a24e340c94bc9f43e8425644235b224e45568", func := "bodkin/bodkinlaw22.ScreenFeeds", spec := "screenFeeds", unfollowed := true, recurses := true, named := ["unicode/utf8.first", "unicode/utf8.acceptRanges"], apart := false, laid := [("unicode/utf8.acceptRanges", laid_unicode_utf8_acceptRanges), ("unicode/utf8.first", laid_unicode_utf8_first)], narrowed := true }
def ScreenFeedsUptoSaid : Prop := screenFeedsUptoRow.holds Tryd.pinned (OpenSpec.upto screenFeedsSpec)

/-- 'bodkinlaw22.ScreenNone', WHERE WHAT IT READS IS OF BULK AT MOST 1048576: true; the input reads as it did. -/
def screenNoneUptoRow : OpenClaim := { program := "ytgdpnmikcopkmaadoor", sum := "ed8ce9f9ca6349798602602a5d3a24e340c94bc9f43e8425644235b224e45568", func := "bodkin/bodkinlaw22.ScreenNone", spec := "screenNone", unfollowed := true, recurses := true, named := ["unicode/utf8.first", "unicode/utf8.acceptRanges"], apart := false, laid := [("unicode/utf8.acceptRanges", laid_unicode_utf8_acceptRanges), ("unicode/utf8.first", laid_unicode_utf8_first)], narrowed := true }
def ScreenNoneUptoSaid : Prop := screenNoneUptoRow.holds Tryd.pinned (OpenSpec.upto screenNoneSpec)

end Rows
end Go.Proofs.YtgdpnmikcopkmaaDoor
