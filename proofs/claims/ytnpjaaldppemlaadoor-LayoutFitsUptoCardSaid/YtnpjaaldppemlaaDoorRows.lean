/-
  NARROWER THAN 'FOR EVERY INPUT', by the rows' own cells (each row's printed sentence says how): LayoutKeeps: laid · LayoutShows: laid · LayoutBlank: laid · LayoutPlaces: laid · LayoutLays: laid · LayoutFits: laid · LayoutSame: laid · LayoutLines: laid · LayoutRises: laid.
  DERIVED. THE GIVEN ROWS OF THIS SEAT. 9 by the template 'for every input the law returns true; each argument reads behind the call as it read before'; 0 by the template 'total and deterministic' (their statements: YtnpjaaldppemlaaDoorTotals.lean).
  GIVEN WITH THE SEED: the statements are not yours to turn. If you find one false, say at which input.
  Laid BY PROGRAM, IN A SANDBOX (cutbox-rows.mjs): the forced cells as the released guide's own fill.sh prints them over the translation 1fff665e2b73c767… (all of the seat's roots in one cut). By AI agents, Wed Nov 11 2026. No macro, syntax, notation, axiom, sorry.
-/
import Derived.Test.YtnpjaaldppemlaaDoorChecked
import GoSem.PinnedTables
import GoSem.Claim
import GoSem.ClaimJoined
import GoSem.ClaimMapViews
import Derived.JoinedTies
import Derived.KernelRfl
namespace Go.Proofs.YtnpjaaldppemlaaDoor
/- THE CELL 'sum', in the pinned program and in every row, IS THE sha256 OF THE DUMP (.gsa) THAT YtnpjaaldppemlaaDoorProg.lean LOADS. Nothing in Lean hashes anything: it is a label: what it is worth is what the hold of that sum in a sandbox is worth. -/
noncomputable def Tryd.pinned : Pinned := { name := "ytnpjaaldppemlaadoor", sum := "1fff665e2b73c767cbcc95e2b9ef79a54978b192ca10ab88a600d1c3d797fb7d", checked := Tryd.checked }
namespace Rows
def none {H : Type} : Left H := { results := [], args := [] }

/- WHAT THE LISTED PACKAGE-LEVEL VARIABLES READ AS WHEN THE CALL BEGINS. Each datum BY PROGRAM (the guide's laid-datum.mjs) off the statement by which the dump's own 'gosem.cut.vars' lays the variable. In a bare row this is a premise. The card (YtnpjaaldppemlaaDoorCards.lean) ties it to the program's text. -/
def laid_unicode_utf8_acceptRanges {H : Type} : DataW H := .agg [.agg [.lit (.int .u8 128), .lit (.int .u8 191)], .agg [.lit (.int .u8 160), .lit (.int .u8 191)], .agg [.lit (.int .u8 128), .lit (.int .u8 159)], .agg [.lit (.int .u8 144), .lit (.int .u8 191)], .agg [.lit (.int .u8 128), .lit (.int .u8 143)], .agg [.lit (.int .u8 0), .lit (.int .u8 0)], .agg [.lit (.int .u8 0), .lit (.int .u8 0)], .agg [.lit (.int .u8 0), .lit (.int .u8 0)], .agg [.lit (.int .u8 0), .lit (.int .u8 0)], .agg [.lit (.int .u8 0), .lit (.int .u8 0)], .agg [.lit (.int .u8 0), .lit (.int .u8 0)], .agg [.lit (.int .u8 0), .lit (.int .u8 0)], .agg [.lit (.int .u8 0), .lit (.int .u8 0)], .agg [.lit (.int .u8 0), .lit (.int .u8 0)], .agg [.lit (.int .u8 0), .lit (.int .u8 0)], .agg [.lit (.int .u8 0), .lit (.int .u8 0)]]
/-- One of Go's own tables, pinned by name: the form's constant. -/
def laid_unicode_utf8_first : DataW Unit := Go.Pinned.utf8First

/-- 'bodkinlaw20.LayoutKeeps': WHATEVER THE INPUT: true; the input reads as it did. -/
def layoutKeepsSpec : ChangeSpec := { name := "layoutKeeps", fn := fun _ => fun
  | [d] => { results := [.lit (.bool true)], args := [d] }
  | _ => none }
def layoutKeepsRow : OpenClaim := { program := "ytnpjaaldppemlaadoor", sum := "1fff665e2b73c767cbcc95e2b9ef79a54978b192ca10ab88a600d1c3d797fb7d", func := "bodkin/bodkinlaw20.LayoutKeeps", spec := "layoutKeeps", inPlace := ["internal/abi.NoEscape"], unfollowed := true, recurses := true, named := ["unicode/utf8.first", "unicode/utf8.acceptRanges"], apart := false, laid := [("unicode/utf8.acceptRanges", laid_unicode_utf8_acceptRanges), ("unicode/utf8.first", laid_unicode_utf8_first)] }
def LayoutKeepsSaid : Prop := layoutKeepsRow.holds Tryd.pinned (OpenSpec.ofChange layoutKeepsSpec)

/-- ITS FALSE NEIGHBOUR: 'it returns false'. Refute it at one input. -/
def layoutKeepsWrong : ChangeSpec := { name := "layoutKeeps", fn := fun _ => fun
  | [d] => { results := [.lit (.bool false)], args := [d] }
  | _ => none }
def LayoutKeepsWrongFalsely : Prop := layoutKeepsRow.holds Tryd.pinned (OpenSpec.ofChange layoutKeepsWrong)

/-- 'bodkinlaw20.LayoutShows': WHATEVER THE INPUT: true; the input reads as it did. -/
def layoutShowsSpec : ChangeSpec := { name := "layoutShows", fn := fun _ => fun
  | [d] => { results := [.lit (.bool true)], args := [d] }
  | _ => none }
def layoutShowsRow : OpenClaim := { program := "ytnpjaaldppemlaadoor", sum := "1fff665e2b73c767cbcc95e2b9ef79a54978b192ca10ab88a600d1c3d797fb7d", func := "bodkin/bodkinlaw20.LayoutShows", spec := "layoutShows", inPlace := ["internal/abi.NoEscape"], unfollowed := true, recurses := true, named := ["unicode/utf8.first", "unicode/utf8.acceptRanges"], apart := false, laid := [("unicode/utf8.acceptRanges", laid_unicode_utf8_acceptRanges), ("unicode/utf8.first", laid_unicode_utf8_first)] }
def LayoutShowsSaid : Prop := layoutShowsRow.holds Tryd.pinned (OpenSpec.ofChange layoutShowsSpec)

/-- ITS FALSE NEIGHBOUR: 'it returns false'. Refute it at one input. -/
def layoutShowsWrong : ChangeSpec := { name := "layoutShows", fn := fun _ => fun
  | [d] => { results := [.lit (.bool false)], args := [d] }
  | _ => none }
def LayoutShowsWrongFalsely : Prop := layoutShowsRow.holds Tryd.pinned (OpenSpec.ofChange layoutShowsWrong)

/-- 'bodkinlaw20.LayoutBlank': WHATEVER THE INPUT: true; the input reads as it did. -/
def layoutBlankSpec : ChangeSpec := { name := "layoutBlank", fn := fun _ => fun
  | [d1, d2] => { results := [.lit (.bool true)], args := [d1, d2] }
  | _ => none }
def layoutBlankRow : OpenClaim := { program := "ytnpjaaldppemlaadoor", sum := "1fff665e2b73c767cbcc95e2b9ef79a54978b192ca10ab88a600d1c3d797fb7d", func := "bodkin/bodkinlaw20.LayoutBlank", spec := "layoutBlank", inPlace := ["internal/abi.NoEscape"], unfollowed := true, recurses := true, named := ["unicode/utf8.first", "unicode/utf8.acceptRanges"], apart := false, laid := [("unicode/utf8.acceptRanges", laid_unicode_utf8_acceptRanges), ("unicode/utf8.first", laid_unicode_utf8_first)] }
def LayoutBlankSaid : Prop := layoutBlankRow.holds Tryd.pinned (OpenSpec.ofChange layoutBlankSpec)

/-- ITS FALSE NEIGHBOUR: 'it returns false'. Refute it at one input. -/
def layoutBlankWrong : ChangeSpec := { name := "layoutBlank", fn := fun _ => fun
  | [d1, d2] => { results := [.lit (.bool false)], args := [d1, d2] }
  | _ => none }
def LayoutBlankWrongFalsely : Prop := layoutBlankRow.holds Tryd.pinned (OpenSpec.ofChange layoutBlankWrong)

/-- 'bodkinlaw20.LayoutPlaces': WHATEVER THE INPUT: true; the input reads as it did. -/
def layoutPlacesSpec : ChangeSpec := { name := "layoutPlaces", fn := fun _ => fun
  | [d] => { results := [.lit (.bool true)], args := [d] }
  | _ => none }
def layoutPlacesRow : OpenClaim := { program := "ytnpjaaldppemlaadoor", sum := "1fff665e2b73c767cbcc95e2b9ef79a54978b192ca10ab88a600d1c3d797fb7d", func := "bodkin/bodkinlaw20.LayoutPlaces", spec := "layoutPlaces", inPlace := ["internal/abi.NoEscape"], unfollowed := true, recurses := true, named := ["unicode/utf8.first", "unicode/utf8.acceptRanges"], apart := false, laid := [("unicode/utf8.acceptRanges", laid_unicode_utf8_acceptRanges), ("unicode/utf8.first", laid_unicode_utf8_first)] }
def LayoutPlacesSaid : Prop := layoutPlacesRow.holds Tryd.pinned (OpenSpec.ofChange layoutPlacesSpec)

/-- ITS FALSE NEIGHBOUR: 'it returns false'. Refute it at one input. -/
def layoutPlacesWrong : ChangeSpec := { name := "layoutPlaces", fn := fun _ => fun
  | [d] => { results := [.lit (.bool false)], args := [d] }
  | _ => none }
def LayoutPlacesWrongFalsely : Prop := layoutPlacesRow.holds Tryd.pinned (OpenSpec.ofChange layoutPlacesWrong)

/-- 'bodkinlaw20.LayoutLays': WHATEVER THE INPUT: true; the input reads as it did. -/
def layoutLaysSpec : ChangeSpec := { name := "layoutLays", fn := fun _ => fun
  | [d] => { results := [.lit (.bool true)], args := [d] }
  | _ => none }
def layoutLaysRow : OpenClaim := { program := "ytnpjaaldppemlaadoor", sum := "1fff665e2b73c767cbcc95e2b9ef79a54978b192ca10ab88a600d1c3d797fb7d", func := "bodkin/bodkinlaw20.LayoutLays", spec := "layoutLays", inPlace := ["internal/abi.NoEscape"], unfollowed := true, recurses := true, named := ["unicode/utf8.first", "unicode/utf8.acceptRanges"], apart := false, laid := [("unicode/utf8.acceptRanges", laid_unicode_utf8_acceptRanges), ("unicode/utf8.first", laid_unicode_utf8_first)] }
def LayoutLaysSaid : Prop := layoutLaysRow.holds Tryd.pinned (OpenSpec.ofChange layoutLaysSpec)

/-- ITS FALSE NEIGHBOUR: 'it returns false'. Refute it at one input. -/
def layoutLaysWrong : ChangeSpec := { name := "layoutLays", fn := fun _ => fun
  | [d] => { results := [.lit (.bool false)], args := [d] }
  | _ => none }
def LayoutLaysWrongFalsely : Prop := layoutLaysRow.holds Tryd.pinned (OpenSpec.ofChange layoutLaysWrong)

/-- 'bodkinlaw20.LayoutFits': WHATEVER THE INPUT: true; the input reads as it did. -/
def layoutFitsSpec : ChangeSpec := { name := "layoutFits", fn := fun _ => fun
  | [d] => { results := [.lit (.bool true)], args := [d] }
  | _ => none }
def layoutFitsRow : OpenClaim := { program := "ytnpjaaldppemlaadoor", sum := "1fff665e2b73c767cbcc95e2b9ef79a54978b192ca10ab88a600d1c3d797fb7d", func := "bodkin/bodkinlaw20.LayoutFits", spec := "layoutFits", inPlace := ["internal/abi.NoEscape"], unfollowed := true, recurses := true, named := ["unicode/utf8.first", "unicode/utf8.acceptRanges"], apart := false, laid := [("unicode/utf8.acceptRanges", laid_unicode_utf8_acceptRanges), ("unicode/utf8.first", laid_unicode_utf8_first)] }
def LayoutFitsSaid : Prop := layoutFitsRow.holds Tryd.pinned (OpenSpec.ofChange layoutFitsSpec)

/-- ITS FALSE NEIGHBOUR: 'it returns false'. Refute it at one input. -/
def layoutFitsWrong : ChangeSpec := { name := "layoutFits", fn := fun _ => fun
  | [d] => { results := [.lit (.bool false)], args := [d] }
  | _ => none }
def LayoutFitsWrongFalsely : Prop := layoutFitsRow.holds Tryd.pinned (OpenSpec.ofChange layoutFitsWrong)

/-- 'bodkinlaw20.LayoutSame': WHATEVER THE INPUT: true; the input reads as it did. -/
def layoutSameSpec : ChangeSpec := { name := "layoutSame", fn := fun _ => fun
  | [d1, d2] => { results := [.lit (.bool true)], args := [d1, d2] }
  | _ => none }
def layoutSameRow : OpenClaim := { program := "ytnpjaaldppemlaadoor", sum := "1fff665e2b73c767cbcc95e2b9ef79a54978b192ca10ab88a600d1c3d797fb7d", func := "bodkin/bodkinlaw20.LayoutSame", spec := "layoutSame", inPlace := ["internal/abi.NoEscape"], unfollowed := true, recurses := true, named := ["unicode/utf8.first", "unicode/utf8.acceptRanges"], apart := false, laid := [("unicode/utf8.acceptRanges", laid_unicode_utf8_acceptRanges), ("unicode/utf8.first", laid_unicode_utf8_first)] }
def LayoutSameSaid : Prop := layoutSameRow.holds Tryd.pinned (OpenSpec.ofChange layoutSameSpec)

/-- ITS FALSE NEIGHBOUR: 'it returns false'. Refute it at one input. -/
def layoutSameWrong : ChangeSpec := { name := "layoutSame", fn := fun _ => fun
  | [d1, d2] => { results := [.lit (.bool false)], args := [d1, d2] }
  | _ => none }
def LayoutSameWrongFalsely : Prop := layoutSameRow.holds Tryd.pinned (OpenSpec.ofChange layoutSameWrong)

/-- 'bodkinlaw20.LayoutLines': WHATEVER THE INPUT: true; the input reads as it did. -/
def layoutLinesSpec : ChangeSpec := { name := "layoutLines", fn := fun _ => fun
  | [d1, d2] => { results := [.lit (.bool true)], args := [d1, d2] }
  | _ => none }
def layoutLinesRow : OpenClaim := { program := "ytnpjaaldppemlaadoor", sum := "1fff665e2b73c767cbcc95e2b9ef79a54978b192ca10ab88a600d1c3d797fb7d", func := "bodkin/bodkinlaw20.LayoutLines", spec := "layoutLines", inPlace := ["internal/abi.NoEscape"], unfollowed := true, recurses := true, named := ["unicode/utf8.first", "unicode/utf8.acceptRanges"], apart := false, laid := [("unicode/utf8.acceptRanges", laid_unicode_utf8_acceptRanges), ("unicode/utf8.first", laid_unicode_utf8_first)] }
def LayoutLinesSaid : Prop := layoutLinesRow.holds Tryd.pinned (OpenSpec.ofChange layoutLinesSpec)

/-- ITS FALSE NEIGHBOUR: 'it returns false'. Refute it at one input. -/
def layoutLinesWrong : ChangeSpec := { name := "layoutLines", fn := fun _ => fun
  | [d1, d2] => { results := [.lit (.bool false)], args := [d1, d2] }
  | _ => none }
def LayoutLinesWrongFalsely : Prop := layoutLinesRow.holds Tryd.pinned (OpenSpec.ofChange layoutLinesWrong)

/-- 'bodkinlaw20.LayoutRises': WHATEVER THE INPUT: true; the input reads as it did. -/
def layoutRisesSpec : ChangeSpec := { name := "layoutRises", fn := fun _ => fun
  | [d] => { results := [.lit (.bool true)], args := [d] }
  | _ => none }
def layoutRisesRow : OpenClaim := { program := "ytnpjaaldppemlaadoor", sum := "1fff665e2b73c767cbcc95e2b9ef79a54978b192ca10ab88a600d1c3d797fb7d", func := "bodkin/bodkinlaw20.LayoutRises", spec := "layoutRises", inPlace := ["internal/abi.NoEscape"], unfollowed := true, recurses := true, named := ["unicode/utf8.first", "unicode/utf8.acceptRanges"], apart := false, laid := [("unicode/utf8.acceptRanges", laid_unicode_utf8_acceptRanges), ("unicode/utf8.first", laid_unicode_utf8_first)] }
def LayoutRisesSaid : Prop := layoutRisesRow.holds Tryd.pinned (OpenSpec.ofChange layoutRisesSpec)

/-- ITS FALSE NEIGHBOUR: 'it returns false'. Refute it at one input. -/
def layoutRisesWrong : ChangeSpec := { name := "layoutRises", fn := fun _ => fun
  | [d] => { results := [.lit (.bool false)], args := [d] }
  | _ => none }
def LayoutRisesWrongFalsely : Prop := layoutRisesRow.holds Tryd.pinned (OpenSpec.ofChange layoutRisesWrong)

/- THE SECOND FORM. 'bulk': how many values and letters a reading holds, each counted each time it is reached (what is shared counts as often as it is met; a slice's spare places count too). A statement '..UptoSaid' is the law's where the arguments, and the package variables that the reading takes, are together of bulk at most 1048576: NARROWER than '..Said'. Prove '..Said' where nothing that the law and all that it calls make is longer than what came in: it says more and counts as full. Else prove '..UptoSaid'. A law counts once. -/
mutual
def uptoBulk {H : Type} : DataW H → Nat
  | .lit (.string bytes) => bytes.length + 1
  | .lit _ => 1
  | .nil => 1
  | .ptr d => uptoBulk d + 1
  | .slice elems spare => uptoBulkAll elems + uptoBulkAll spare + 1
  | .agg parts => uptoBulkAll parts + 1
  | .iface _ d => uptoBulk d + 1
  | .map entries => uptoBulkEntries entries + 1
  | .held _ => 1
def uptoBulkAll {H : Type} : List (DataW H) → Nat
  | [] => 0
  | d :: r => uptoBulk d + uptoBulkAll r
def uptoBulkEntries {H : Type} : List (Lit × DataW H) → Nat
  | [] => 0
  | x :: r => uptoBulkEntry x + uptoBulkEntries r
def uptoBulkEntry {H : Type} : Lit × DataW H → Nat
  | (.string bytes, d) => bytes.length + uptoBulk d + 1
  | (_, d) => uptoBulk d + 1
 end
def uptoSmall : (H : Type) → List (DataW H) → Bool := fun _ ds => decide (uptoBulkAll ds ≤ 1048576)
def OpenSpec.upto (s : _root_.Go.ChangeSpec) : _root_.Go.OpenSpec := { _root_.Go.OpenSpec.ofChange s with cond := some uptoSmall }

/-- 'bodkinlaw20.LayoutKeeps', WHERE WHAT IT READS IS OF BULK AT MOST 1048576: true; the input reads as it did. -/
def layoutKeepsUptoRow : OpenClaim := { program := "ytnpjaaldppemlaadoor", sum := "1fff665e2b73c767cbcc95e2b9ef79a54978b192ca10ab88a600d1c3d797fb7d", func := "bodkin/bodkinlaw20.LayoutKeeps", spec := "layoutKeeps", inPlace := ["internal/abi.NoEscape"], unfollowed := true, recurses := true, named := ["unicode/utf8.first", "unicode/utf8.acceptRanges"], apart := false, laid := [("unicode/utf8.acceptRanges", laid_unicode_utf8_acceptRanges), ("unicode/utf8.first", laid_unicode_utf8_first)], narrowed := true }
def LayoutKeepsUptoSaid : Prop := layoutKeepsUptoRow.holds Tryd.pinned (OpenSpec.upto layoutKeepsSpec)

/-- 'bodkinlaw20.LayoutShows', WHERE WHAT IT READS IS OF BULK AT MOST 1048576: true; the input reads as it did. -/
def layoutShowsUptoRow : OpenClaim := { program := "ytnpjaaldppemlaadoor", sum := "1fff665e2b73c767cbcc95e2b9ef79a54978b192ca10ab88a600d1c3d797fb7d", func := "bodkin/bodkinlaw20.LayoutShows", spec := "layoutShows", inPlace := ["internal/abi.NoEscape"], unfollowed := true, recurses := true, named := ["unicode/utf8.first", "unicode/utf8.acceptRanges"], apart := false, laid := [("unicode/utf8.acceptRanges", laid_unicode_utf8_acceptRanges), ("unicode/utf8.first", laid_unicode_utf8_first)], narrowed := true }
def LayoutShowsUptoSaid : Prop := layoutShowsUptoRow.holds Tryd.pinned (OpenSpec.upto layoutShowsSpec)

/-- 'bodkinlaw20.LayoutBlank', WHERE WHAT IT READS IS OF BULK AT MOST 1048576: true; the input reads as it did. -/
def layoutBlankUptoRow : OpenClaim := { program := "ytnpjaaldppemlaadoor", sum := "1fff665e2b73c767cbcc95e2b9ef79a54978b192ca10ab88a600d1c3d797fb7d", func := "bodkin/bodkinlaw20.LayoutBlank", spec := "layoutBlank", inPlace := ["internal/abi.NoEscape"], unfollowed := true, recurses := true, named := ["unicode/utf8.first", "unicode/utf8.acceptRanges"], apart := false, laid := [("unicode/utf8.acceptRanges", laid_unicode_utf8_acceptRanges), ("unicode/utf8.first", laid_unicode_utf8_first)], narrowed := true }
def LayoutBlankUptoSaid : Prop := layoutBlankUptoRow.holds Tryd.pinned (OpenSpec.upto layoutBlankSpec)

/-- 'bodkinlaw20.LayoutPlaces', WHERE WHAT IT READS IS OF BULK AT MOST 1048576: true; the input reads as it did. -/
def layoutPlacesUptoRow : OpenClaim := { program := "ytnpjaaldppemlaadoor", sum := "1fff665e2b73c767cbcc95e2b9ef79a54978b192ca10ab88a600d1c3d797fb7d", func := "bodkin/bodkinlaw20.LayoutPlaces", spec := "layoutPlaces", inPlace := ["internal/abi.NoEscape"], unfollowed := true, recurses := true, named := ["unicode/utf8.first", "unicode/utf8.acceptRanges"], apart := false, laid := [("unicode/utf8.acceptRanges", laid_unicode_utf8_acceptRanges), ("unicode/utf8.first", laid_unicode_utf8_first)], narrowed := true }
def LayoutPlacesUptoSaid : Prop := layoutPlacesUptoRow.holds Tryd.pinned (OpenSpec.upto layoutPlacesSpec)

/-- 'bodkinlaw20.LayoutLays', WHERE WHAT IT READS IS OF BULK AT MOST 1048576: true; the input reads as it did. -/
def layoutLaysUptoRow : OpenClaim := { program := "ytnpjaaldppemlaadoor", sum := "1fff665e2b73c767cbcc95e2b9ef79a54978b192ca10ab88a600d1c3d797fb7d", func := "bodkin/bodkinlaw20.LayoutLays", spec := "layoutLays", inPlace := ["internal/abi.NoEscape"], unfollowed := true, recurses := true, named := ["unicode/utf8.first", "unicode/utf8.acceptRanges"], apart := false, laid := [("unicode/utf8.acceptRanges", laid_unicode_utf8_acceptRanges), ("unicode/utf8.first", laid_unicode_utf8_first)], narrowed := true }
def LayoutLaysUptoSaid : Prop := layoutLaysUptoRow.holds Tryd.pinned (OpenSpec.upto layoutLaysSpec)

/-- 'bodkinlaw20.LayoutFits', WHERE WHAT IT READS IS OF BULK AT MOST 1048576: true; the input reads as it did. -/
def layoutFitsUptoRow : OpenClaim := { program := "ytnpjaaldppemlaadoor", sum := "1fff665e2b73c767cbcc95e2b9ef79a54978b192ca10ab88a600d1c3d797fb7d", func := "bodkin/bodkinlaw20.LayoutFits", spec := "layoutFits", inPlace := ["internal/abi.NoEscape"], unfollowed := true, recurses := true, named := ["unicode/utf8.first", "unicode/utf8.acceptRanges"], apart := false, laid := [("unicode/utf8.acceptRanges", laid_unicode_utf8_acceptRanges), ("unicode/utf8.first", laid_unicode_utf8_first)], narrowed := true }
def LayoutFitsUptoSaid : Prop := layoutFitsUptoRow.holds Tryd.pinned (OpenSpec.upto layoutFitsSpec)

/-- 'bodkinlaw20.LayoutSame', WHERE WHAT IT READS IS OF BULK AT MOST 1048576: true; the input reads as it did. -/
def layoutSameUptoRow : OpenClaim := { program := "ytnpjaaldppemlaadoor", sum := "1fff665e2b73c767cbcc95e2b9ef79a54978b192ca10ab88a600d1c3d797fb7d", func := "bodkin/bodkinlaw20.LayoutSame", spec := "layoutSame", inPlace := ["internal/abi.NoEscape"], unfollowed := true, recurses := true, named := ["unicode/utf8.first", "unicode/utf8.acceptRanges"], apart := false, laid := [("unicode/utf8.acceptRanges", laid_unicode_utf8_acceptRanges), ("unicode/utf8.first", laid_unicode_utf8_first)], narrowed := true }
def LayoutSameUptoSaid : Prop := layoutSameUptoRow.holds Tryd.pinned (OpenSpec.upto layoutSameSpec)

/-- 'bodkinlaw20.LayoutLines', WHERE WHAT IT READS IS OF BULK AT MOST 1048576: true; the input reads as it did. -/
def layoutLinesUptoRow : OpenClaim := { program := "ytnpjaaldppemlaadoor", sum := "1fff665e2b73c767cbcc95e2b9ef79a54978b192ca10ab88a600d1c3d797fb7d", func := "bodkin/bodkinlaw20.LayoutLines", spec := "layoutLines", inPlace := ["internal/abi.NoEscape"], unfollowed := true, recurses := true, named := ["unicode/utf8.first", "unicode/utf8.acceptRanges"], apart := false, laid := [("unicode/utf8.acceptRanges", laid_unicode_utf8_acceptRanges), ("unicode/utf8.first", laid_unicode_utf8_first)], narrowed := true }
def LayoutLinesUptoSaid : Prop := layoutLinesUptoRow.holds Tryd.pinned (OpenSpec.upto layoutLinesSpec)

/-- 'bodkinlaw20.LayoutRises', WHERE WHAT IT READS IS OF BULK AT MOST 1048576: true; the input reads as it did. -/
def layoutRisesUptoRow : OpenClaim := { program := "ytnpjaaldppemlaadoor", sum := "1fff665e2b73c767cbcc95e2b9ef79a54978b192ca10ab88a600d1c3d797fb7d", func := "bodkin/bodkinlaw20.LayoutRises", spec := "layoutRises", inPlace := ["internal/abi.NoEscape"], unfollowed := true, recurses := true, named := ["unicode/utf8.first", "unicode/utf8.acceptRanges"], apart := false, laid := [("unicode/utf8.acceptRanges", laid_unicode_utf8_acceptRanges), ("unicode/utf8.first", laid_unicode_utf8_first)], narrowed := true }
def LayoutRisesUptoSaid : Prop := layoutRisesUptoRow.holds Tryd.pinned (OpenSpec.upto layoutRisesSpec)

end Rows
end Go.Proofs.YtnpjaaldppemlaaDoor
