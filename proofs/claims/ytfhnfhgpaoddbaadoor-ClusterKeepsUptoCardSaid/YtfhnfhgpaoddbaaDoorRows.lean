/-
  NARROWER THAN 'FOR EVERY INPUT', by the rows' own cells (each row's printed sentence says how): UnitLocal: laid · UnitFresh: laid · UnitSeams: laid · UnitLists: laid · UnitAsks: laid · UnitSteps: laid · UnitBegins: laid · UnitEncodes: laid · UnitTiles: laid · UnitBack: laid · ClusterWalks: laid · ClusterNear: laid · ClusterKeeps: laid · ClusterPlaces: laid · ClusterLists: laid · ClusterSums: laid · ClusterSteps: laid · ClusterShows: laid.
  DERIVED. THE GIVEN ROWS OF THIS SEAT. 18 by the template 'for every input the law returns true; each argument reads behind the call as it read before'; 0 by the template 'total and deterministic' (their statements: YtfhnfhgpaoddbaaDoorTotals.lean).
  GIVEN WITH THE SEED: the statements are not yours to turn. If you find one false, say at which input.
  Laid BY PROGRAM, IN A SANDBOX (cutbox-rows.mjs): the forced cells as the released guide's own fill.sh prints them over the translation 0c5e0ec20b6238b3… (all of the seat's roots in one cut). By AI agents, Wed Nov 11 2026. No macro, syntax, notation, axiom, sorry.
-/
import Derived.Test.YtfhnfhgpaoddbaaDoorChecked
import GoSem.PinnedTables
import GoSem.Claim
import GoSem.ClaimJoined
import GoSem.ClaimMapViews
import Derived.JoinedTies
import Derived.KernelRfl
namespace Go.Proofs.YtfhnfhgpaoddbaaDoor
/- THE CELL 'sum', in the pinned program and in every row, IS THE sha256 OF THE DUMP (.gsa) THAT YtfhnfhgpaoddbaaDoorProg.lean LOADS. Nothing in Lean hashes anything: it is a label: what it is worth is what the hold of that sum in a sandbox is worth. -/
noncomputable def Tryd.pinned : Pinned := { name := "ytfhnfhgpaoddbaadoor", sum := "0c5e0ec20b6238b3bca7e6053ea03b6d9a393c843378b949c328eeb0531b4c43", checked := Tryd.checked }
namespace Rows
def none {H : Type} : Left H := { results := [], args := [] }

/- WHAT THE LISTED PACKAGE-LEVEL VARIABLES READ AS WHEN THE CALL BEGINS. Each datum BY PROGRAM (the guide's laid-datum.mjs) off the statement by which the dump's own 'gosem.cut.vars' lays the variable. In a bare row this is a premise. The card (YtfhnfhgpaoddbaaDoorCards.lean) ties it to the program's text. -/
def laid_unicode_utf8_acceptRanges {H : Type} : DataW H := .agg [.agg [.lit (.int .u8 128), .lit (.int .u8 191)], .agg [.lit (.int .u8 160), .lit (.int .u8 191)], .agg [.lit (.int .u8 128), .lit (.int .u8 159)], .agg [.lit (.int .u8 144), .lit (.int .u8 191)], .agg [.lit (.int .u8 128), .lit (.int .u8 143)], .agg [.lit (.int .u8 0), .lit (.int .u8 0)], .agg [.lit (.int .u8 0), .lit (.int .u8 0)], .agg [.lit (.int .u8 0), .lit (.int .u8 0)], .agg [.lit (.int .u8 0), .lit (.int .u8 0)], .agg [.lit (.int .u8 0), .lit (.int .u8 0)], .agg [.lit (.int .u8 0), .lit (.int .u8 0)], .agg [.lit (.int .u8 0), .lit (.int .u8 0)], .agg [.lit (.int .u8 0), .lit (.int .u8 0)], .agg [.lit (.int .u8 0), .lit (.int .u8 0)], .agg [.lit (.int .u8 0), .lit (.int .u8 0)], .agg [.lit (.int .u8 0), .lit (.int .u8 0)]]
/-- One of Go's own tables, pinned by name: the form's constant. -/
def laid_unicode_utf8_first : DataW Unit := Go.Pinned.utf8First

/-- 'bodkinlaw01.UnitLocal': WHATEVER THE INPUT: true; the input reads as it did. -/
def unitLocalSpec : ChangeSpec := { name := "unitLocal", fn := fun _ => fun
  | [d1, d2] => { results := [.lit (.bool true)], args := [d1, d2] }
  | _ => none }
def unitLocalRow : OpenClaim := { program := "ytfhnfhgpaoddbaadoor", sum := "0c5e0ec20b6238b3bca7e6053ea03b6d9a393c843378b949c328eeb0531b4c43", func := "bodkin/bodkinlaw01.UnitLocal", spec := "unitLocal", unfollowed := true, recurses := true, named := ["unicode/utf8.first", "unicode/utf8.acceptRanges"], apart := false, laid := [("unicode/utf8.acceptRanges", laid_unicode_utf8_acceptRanges), ("unicode/utf8.first", laid_unicode_utf8_first)] }
def UnitLocalSaid : Prop := unitLocalRow.holds Tryd.pinned (OpenSpec.ofChange unitLocalSpec)

/-- ITS FALSE NEIGHBOUR: 'it returns false'. Refute it at one input. -/
def unitLocalWrong : ChangeSpec := { name := "unitLocal", fn := fun _ => fun
  | [d1, d2] => { results := [.lit (.bool false)], args := [d1, d2] }
  | _ => none }
def UnitLocalWrongFalsely : Prop := unitLocalRow.holds Tryd.pinned (OpenSpec.ofChange unitLocalWrong)

/-- 'bodkinlaw01.UnitFresh': WHATEVER THE INPUT: true; the input reads as it did. -/
def unitFreshSpec : ChangeSpec := { name := "unitFresh", fn := fun _ => fun
  | [d] => { results := [.lit (.bool true)], args := [d] }
  | _ => none }
def unitFreshRow : OpenClaim := { program := "ytfhnfhgpaoddbaadoor", sum := "0c5e0ec20b6238b3bca7e6053ea03b6d9a393c843378b949c328eeb0531b4c43", func := "bodkin/bodkinlaw01.UnitFresh", spec := "unitFresh", unfollowed := true, recurses := true, named := ["unicode/utf8.first", "unicode/utf8.acceptRanges"], apart := false, laid := [("unicode/utf8.acceptRanges", laid_unicode_utf8_acceptRanges), ("unicode/utf8.first", laid_unicode_utf8_first)] }
def UnitFreshSaid : Prop := unitFreshRow.holds Tryd.pinned (OpenSpec.ofChange unitFreshSpec)

/-- ITS FALSE NEIGHBOUR: 'it returns false'. Refute it at one input. -/
def unitFreshWrong : ChangeSpec := { name := "unitFresh", fn := fun _ => fun
  | [d] => { results := [.lit (.bool false)], args := [d] }
  | _ => none }
def UnitFreshWrongFalsely : Prop := unitFreshRow.holds Tryd.pinned (OpenSpec.ofChange unitFreshWrong)

/-- 'bodkinlaw01.UnitSeams': WHATEVER THE INPUT: true; the input reads as it did. -/
def unitSeamsSpec : ChangeSpec := { name := "unitSeams", fn := fun _ => fun
  | [d1, d2] => { results := [.lit (.bool true)], args := [d1, d2] }
  | _ => none }
def unitSeamsRow : OpenClaim := { program := "ytfhnfhgpaoddbaadoor", sum := "0c5e0ec20b6238b3bca7e6053ea03b6d9a393c843378b949c328eeb0531b4c43", func := "bodkin/bodkinlaw01.UnitSeams", spec := "unitSeams", unfollowed := true, recurses := true, named := ["unicode/utf8.first", "unicode/utf8.acceptRanges"], apart := false, laid := [("unicode/utf8.acceptRanges", laid_unicode_utf8_acceptRanges), ("unicode/utf8.first", laid_unicode_utf8_first)] }
def UnitSeamsSaid : Prop := unitSeamsRow.holds Tryd.pinned (OpenSpec.ofChange unitSeamsSpec)

/-- ITS FALSE NEIGHBOUR: 'it returns false'. Refute it at one input. -/
def unitSeamsWrong : ChangeSpec := { name := "unitSeams", fn := fun _ => fun
  | [d1, d2] => { results := [.lit (.bool false)], args := [d1, d2] }
  | _ => none }
def UnitSeamsWrongFalsely : Prop := unitSeamsRow.holds Tryd.pinned (OpenSpec.ofChange unitSeamsWrong)

/-- 'bodkinlaw01.UnitLists': WHATEVER THE INPUT: true; the input reads as it did. -/
def unitListsSpec : ChangeSpec := { name := "unitLists", fn := fun _ => fun
  | [d1, d2] => { results := [.lit (.bool true)], args := [d1, d2] }
  | _ => none }
def unitListsRow : OpenClaim := { program := "ytfhnfhgpaoddbaadoor", sum := "0c5e0ec20b6238b3bca7e6053ea03b6d9a393c843378b949c328eeb0531b4c43", func := "bodkin/bodkinlaw01.UnitLists", spec := "unitLists", unfollowed := true, recurses := true, named := ["unicode/utf8.first", "unicode/utf8.acceptRanges"], apart := false, laid := [("unicode/utf8.acceptRanges", laid_unicode_utf8_acceptRanges), ("unicode/utf8.first", laid_unicode_utf8_first)] }
def UnitListsSaid : Prop := unitListsRow.holds Tryd.pinned (OpenSpec.ofChange unitListsSpec)

/-- ITS FALSE NEIGHBOUR: 'it returns false'. Refute it at one input. -/
def unitListsWrong : ChangeSpec := { name := "unitLists", fn := fun _ => fun
  | [d1, d2] => { results := [.lit (.bool false)], args := [d1, d2] }
  | _ => none }
def UnitListsWrongFalsely : Prop := unitListsRow.holds Tryd.pinned (OpenSpec.ofChange unitListsWrong)

/-- 'bodkinlaw01.UnitAsks': WHATEVER THE INPUT: true; the input reads as it did. -/
def unitAsksSpec : ChangeSpec := { name := "unitAsks", fn := fun _ => fun
  | [d1, d2] => { results := [.lit (.bool true)], args := [d1, d2] }
  | _ => none }
def unitAsksRow : OpenClaim := { program := "ytfhnfhgpaoddbaadoor", sum := "0c5e0ec20b6238b3bca7e6053ea03b6d9a393c843378b949c328eeb0531b4c43", func := "bodkin/bodkinlaw01.UnitAsks", spec := "unitAsks", unfollowed := true, recurses := true, named := ["unicode/utf8.first", "unicode/utf8.acceptRanges"], apart := false, laid := [("unicode/utf8.acceptRanges", laid_unicode_utf8_acceptRanges), ("unicode/utf8.first", laid_unicode_utf8_first)] }
def UnitAsksSaid : Prop := unitAsksRow.holds Tryd.pinned (OpenSpec.ofChange unitAsksSpec)

/-- ITS FALSE NEIGHBOUR: 'it returns false'. Refute it at one input. -/
def unitAsksWrong : ChangeSpec := { name := "unitAsks", fn := fun _ => fun
  | [d1, d2] => { results := [.lit (.bool false)], args := [d1, d2] }
  | _ => none }
def UnitAsksWrongFalsely : Prop := unitAsksRow.holds Tryd.pinned (OpenSpec.ofChange unitAsksWrong)

/-- 'bodkinlaw01.UnitSteps': WHATEVER THE INPUT: true; the input reads as it did. -/
def unitStepsSpec : ChangeSpec := { name := "unitSteps", fn := fun _ => fun
  | [d1, d2] => { results := [.lit (.bool true)], args := [d1, d2] }
  | _ => none }
def unitStepsRow : OpenClaim := { program := "ytfhnfhgpaoddbaadoor", sum := "0c5e0ec20b6238b3bca7e6053ea03b6d9a393c843378b949c328eeb0531b4c43", func := "bodkin/bodkinlaw01.UnitSteps", spec := "unitSteps", unfollowed := true, recurses := true, named := ["unicode/utf8.first", "unicode/utf8.acceptRanges"], apart := false, laid := [("unicode/utf8.acceptRanges", laid_unicode_utf8_acceptRanges), ("unicode/utf8.first", laid_unicode_utf8_first)] }
def UnitStepsSaid : Prop := unitStepsRow.holds Tryd.pinned (OpenSpec.ofChange unitStepsSpec)

/-- ITS FALSE NEIGHBOUR: 'it returns false'. Refute it at one input. -/
def unitStepsWrong : ChangeSpec := { name := "unitSteps", fn := fun _ => fun
  | [d1, d2] => { results := [.lit (.bool false)], args := [d1, d2] }
  | _ => none }
def UnitStepsWrongFalsely : Prop := unitStepsRow.holds Tryd.pinned (OpenSpec.ofChange unitStepsWrong)

/-- 'bodkinlaw01.UnitBegins': WHATEVER THE INPUT: true; the input reads as it did. -/
def unitBeginsSpec : ChangeSpec := { name := "unitBegins", fn := fun _ => fun
  | [d] => { results := [.lit (.bool true)], args := [d] }
  | _ => none }
def unitBeginsRow : OpenClaim := { program := "ytfhnfhgpaoddbaadoor", sum := "0c5e0ec20b6238b3bca7e6053ea03b6d9a393c843378b949c328eeb0531b4c43", func := "bodkin/bodkinlaw01.UnitBegins", spec := "unitBegins", unfollowed := true, recurses := true, named := ["unicode/utf8.first", "unicode/utf8.acceptRanges"], apart := false, laid := [("unicode/utf8.acceptRanges", laid_unicode_utf8_acceptRanges), ("unicode/utf8.first", laid_unicode_utf8_first)] }
def UnitBeginsSaid : Prop := unitBeginsRow.holds Tryd.pinned (OpenSpec.ofChange unitBeginsSpec)

/-- ITS FALSE NEIGHBOUR: 'it returns false'. Refute it at one input. -/
def unitBeginsWrong : ChangeSpec := { name := "unitBegins", fn := fun _ => fun
  | [d] => { results := [.lit (.bool false)], args := [d] }
  | _ => none }
def UnitBeginsWrongFalsely : Prop := unitBeginsRow.holds Tryd.pinned (OpenSpec.ofChange unitBeginsWrong)

/-- 'bodkinlaw01.UnitEncodes': WHATEVER THE INPUT: true; the input reads as it did. -/
def unitEncodesSpec : ChangeSpec := { name := "unitEncodes", fn := fun _ => fun
  | [d] => { results := [.lit (.bool true)], args := [d] }
  | _ => none }
def unitEncodesRow : OpenClaim := { program := "ytfhnfhgpaoddbaadoor", sum := "0c5e0ec20b6238b3bca7e6053ea03b6d9a393c843378b949c328eeb0531b4c43", func := "bodkin/bodkinlaw01.UnitEncodes", spec := "unitEncodes", unfollowed := true, recurses := true, named := ["unicode/utf8.first", "unicode/utf8.acceptRanges"], apart := false, laid := [("unicode/utf8.acceptRanges", laid_unicode_utf8_acceptRanges), ("unicode/utf8.first", laid_unicode_utf8_first)] }
def UnitEncodesSaid : Prop := unitEncodesRow.holds Tryd.pinned (OpenSpec.ofChange unitEncodesSpec)

/-- ITS FALSE NEIGHBOUR: 'it returns false'. Refute it at one input. -/
def unitEncodesWrong : ChangeSpec := { name := "unitEncodes", fn := fun _ => fun
  | [d] => { results := [.lit (.bool false)], args := [d] }
  | _ => none }
def UnitEncodesWrongFalsely : Prop := unitEncodesRow.holds Tryd.pinned (OpenSpec.ofChange unitEncodesWrong)

/-- 'bodkinlaw01.UnitTiles': WHATEVER THE INPUT: true; the input reads as it did. -/
def unitTilesSpec : ChangeSpec := { name := "unitTiles", fn := fun _ => fun
  | [d] => { results := [.lit (.bool true)], args := [d] }
  | _ => none }
def unitTilesRow : OpenClaim := { program := "ytfhnfhgpaoddbaadoor", sum := "0c5e0ec20b6238b3bca7e6053ea03b6d9a393c843378b949c328eeb0531b4c43", func := "bodkin/bodkinlaw01.UnitTiles", spec := "unitTiles", unfollowed := true, recurses := true, named := ["unicode/utf8.first", "unicode/utf8.acceptRanges"], apart := false, laid := [("unicode/utf8.acceptRanges", laid_unicode_utf8_acceptRanges), ("unicode/utf8.first", laid_unicode_utf8_first)] }
def UnitTilesSaid : Prop := unitTilesRow.holds Tryd.pinned (OpenSpec.ofChange unitTilesSpec)

/-- ITS FALSE NEIGHBOUR: 'it returns false'. Refute it at one input. -/
def unitTilesWrong : ChangeSpec := { name := "unitTiles", fn := fun _ => fun
  | [d] => { results := [.lit (.bool false)], args := [d] }
  | _ => none }
def UnitTilesWrongFalsely : Prop := unitTilesRow.holds Tryd.pinned (OpenSpec.ofChange unitTilesWrong)

/-- 'bodkinlaw01.UnitBack': WHATEVER THE INPUT: true; the input reads as it did. -/
def unitBackSpec : ChangeSpec := { name := "unitBack", fn := fun _ => fun
  | [d] => { results := [.lit (.bool true)], args := [d] }
  | _ => none }
def unitBackRow : OpenClaim := { program := "ytfhnfhgpaoddbaadoor", sum := "0c5e0ec20b6238b3bca7e6053ea03b6d9a393c843378b949c328eeb0531b4c43", func := "bodkin/bodkinlaw01.UnitBack", spec := "unitBack", unfollowed := true, recurses := true, named := ["unicode/utf8.first", "unicode/utf8.acceptRanges"], apart := false, laid := [("unicode/utf8.acceptRanges", laid_unicode_utf8_acceptRanges), ("unicode/utf8.first", laid_unicode_utf8_first)] }
def UnitBackSaid : Prop := unitBackRow.holds Tryd.pinned (OpenSpec.ofChange unitBackSpec)

/-- ITS FALSE NEIGHBOUR: 'it returns false'. Refute it at one input. -/
def unitBackWrong : ChangeSpec := { name := "unitBack", fn := fun _ => fun
  | [d] => { results := [.lit (.bool false)], args := [d] }
  | _ => none }
def UnitBackWrongFalsely : Prop := unitBackRow.holds Tryd.pinned (OpenSpec.ofChange unitBackWrong)

/-- 'bodkinlaw03.ClusterWalks': WHATEVER THE INPUT: true; the input reads as it did. -/
def clusterWalksSpec : ChangeSpec := { name := "clusterWalks", fn := fun _ => fun
  | [d1, d2] => { results := [.lit (.bool true)], args := [d1, d2] }
  | _ => none }
def clusterWalksRow : OpenClaim := { program := "ytfhnfhgpaoddbaadoor", sum := "0c5e0ec20b6238b3bca7e6053ea03b6d9a393c843378b949c328eeb0531b4c43", func := "bodkin/bodkinlaw03.ClusterWalks", spec := "clusterWalks", inPlace := ["internal/abi.NoEscape"], unfollowed := true, recurses := true, named := ["unicode/utf8.first", "unicode/utf8.acceptRanges"], apart := false, laid := [("unicode/utf8.acceptRanges", laid_unicode_utf8_acceptRanges), ("unicode/utf8.first", laid_unicode_utf8_first)] }
def ClusterWalksSaid : Prop := clusterWalksRow.holds Tryd.pinned (OpenSpec.ofChange clusterWalksSpec)

/-- ITS FALSE NEIGHBOUR: 'it returns false'. Refute it at one input. -/
def clusterWalksWrong : ChangeSpec := { name := "clusterWalks", fn := fun _ => fun
  | [d1, d2] => { results := [.lit (.bool false)], args := [d1, d2] }
  | _ => none }
def ClusterWalksWrongFalsely : Prop := clusterWalksRow.holds Tryd.pinned (OpenSpec.ofChange clusterWalksWrong)

/-- 'bodkinlaw03.ClusterNear': WHATEVER THE INPUT: true; the input reads as it did. -/
def clusterNearSpec : ChangeSpec := { name := "clusterNear", fn := fun _ => fun
  | [d1, d2, d3] => { results := [.lit (.bool true)], args := [d1, d2, d3] }
  | _ => none }
def clusterNearRow : OpenClaim := { program := "ytfhnfhgpaoddbaadoor", sum := "0c5e0ec20b6238b3bca7e6053ea03b6d9a393c843378b949c328eeb0531b4c43", func := "bodkin/bodkinlaw03.ClusterNear", spec := "clusterNear", inPlace := ["internal/abi.NoEscape"], unfollowed := true, recurses := true, named := ["unicode/utf8.first", "unicode/utf8.acceptRanges"], apart := false, laid := [("unicode/utf8.acceptRanges", laid_unicode_utf8_acceptRanges), ("unicode/utf8.first", laid_unicode_utf8_first)] }
def ClusterNearSaid : Prop := clusterNearRow.holds Tryd.pinned (OpenSpec.ofChange clusterNearSpec)

/-- ITS FALSE NEIGHBOUR: 'it returns false'. Refute it at one input. -/
def clusterNearWrong : ChangeSpec := { name := "clusterNear", fn := fun _ => fun
  | [d1, d2, d3] => { results := [.lit (.bool false)], args := [d1, d2, d3] }
  | _ => none }
def ClusterNearWrongFalsely : Prop := clusterNearRow.holds Tryd.pinned (OpenSpec.ofChange clusterNearWrong)

/-- 'bodkinlaw03.ClusterKeeps': WHATEVER THE INPUT: true; the input reads as it did. -/
def clusterKeepsSpec : ChangeSpec := { name := "clusterKeeps", fn := fun _ => fun
  | [d1, d2] => { results := [.lit (.bool true)], args := [d1, d2] }
  | _ => none }
def clusterKeepsRow : OpenClaim := { program := "ytfhnfhgpaoddbaadoor", sum := "0c5e0ec20b6238b3bca7e6053ea03b6d9a393c843378b949c328eeb0531b4c43", func := "bodkin/bodkinlaw03.ClusterKeeps", spec := "clusterKeeps", inPlace := ["internal/abi.NoEscape"], unfollowed := true, recurses := true, named := ["unicode/utf8.first", "unicode/utf8.acceptRanges"], apart := false, laid := [("unicode/utf8.acceptRanges", laid_unicode_utf8_acceptRanges), ("unicode/utf8.first", laid_unicode_utf8_first)] }
def ClusterKeepsSaid : Prop := clusterKeepsRow.holds Tryd.pinned (OpenSpec.ofChange clusterKeepsSpec)

/-- ITS FALSE NEIGHBOUR: 'it returns false'. Refute it at one input. -/
def clusterKeepsWrong : ChangeSpec := { name := "clusterKeeps", fn := fun _ => fun
  | [d1, d2] => { results := [.lit (.bool false)], args := [d1, d2] }
  | _ => none }
def ClusterKeepsWrongFalsely : Prop := clusterKeepsRow.holds Tryd.pinned (OpenSpec.ofChange clusterKeepsWrong)

/-- 'bodkinlaw03.ClusterPlaces': WHATEVER THE INPUT: true; the input reads as it did. -/
def clusterPlacesSpec : ChangeSpec := { name := "clusterPlaces", fn := fun _ => fun
  | [d] => { results := [.lit (.bool true)], args := [d] }
  | _ => none }
def clusterPlacesRow : OpenClaim := { program := "ytfhnfhgpaoddbaadoor", sum := "0c5e0ec20b6238b3bca7e6053ea03b6d9a393c843378b949c328eeb0531b4c43", func := "bodkin/bodkinlaw03.ClusterPlaces", spec := "clusterPlaces", inPlace := ["internal/abi.NoEscape"], unfollowed := true, recurses := true, named := ["unicode/utf8.first", "unicode/utf8.acceptRanges"], apart := false, laid := [("unicode/utf8.acceptRanges", laid_unicode_utf8_acceptRanges), ("unicode/utf8.first", laid_unicode_utf8_first)] }
def ClusterPlacesSaid : Prop := clusterPlacesRow.holds Tryd.pinned (OpenSpec.ofChange clusterPlacesSpec)

/-- ITS FALSE NEIGHBOUR: 'it returns false'. Refute it at one input. -/
def clusterPlacesWrong : ChangeSpec := { name := "clusterPlaces", fn := fun _ => fun
  | [d] => { results := [.lit (.bool false)], args := [d] }
  | _ => none }
def ClusterPlacesWrongFalsely : Prop := clusterPlacesRow.holds Tryd.pinned (OpenSpec.ofChange clusterPlacesWrong)

/-- 'bodkinlaw03.ClusterLists': WHATEVER THE INPUT: true; the input reads as it did. -/
def clusterListsSpec : ChangeSpec := { name := "clusterLists", fn := fun _ => fun
  | [d] => { results := [.lit (.bool true)], args := [d] }
  | _ => none }
def clusterListsRow : OpenClaim := { program := "ytfhnfhgpaoddbaadoor", sum := "0c5e0ec20b6238b3bca7e6053ea03b6d9a393c843378b949c328eeb0531b4c43", func := "bodkin/bodkinlaw03.ClusterLists", spec := "clusterLists", inPlace := ["internal/abi.NoEscape"], unfollowed := true, recurses := true, named := ["unicode/utf8.first", "unicode/utf8.acceptRanges"], apart := false, laid := [("unicode/utf8.acceptRanges", laid_unicode_utf8_acceptRanges), ("unicode/utf8.first", laid_unicode_utf8_first)] }
def ClusterListsSaid : Prop := clusterListsRow.holds Tryd.pinned (OpenSpec.ofChange clusterListsSpec)

/-- ITS FALSE NEIGHBOUR: 'it returns false'. Refute it at one input. -/
def clusterListsWrong : ChangeSpec := { name := "clusterLists", fn := fun _ => fun
  | [d] => { results := [.lit (.bool false)], args := [d] }
  | _ => none }
def ClusterListsWrongFalsely : Prop := clusterListsRow.holds Tryd.pinned (OpenSpec.ofChange clusterListsWrong)

/-- 'bodkinlaw03.ClusterSums': WHATEVER THE INPUT: true; the input reads as it did. -/
def clusterSumsSpec : ChangeSpec := { name := "clusterSums", fn := fun _ => fun
  | [d1, d2] => { results := [.lit (.bool true)], args := [d1, d2] }
  | _ => none }
def clusterSumsRow : OpenClaim := { program := "ytfhnfhgpaoddbaadoor", sum := "0c5e0ec20b6238b3bca7e6053ea03b6d9a393c843378b949c328eeb0531b4c43", func := "bodkin/bodkinlaw03.ClusterSums", spec := "clusterSums", inPlace := ["internal/abi.NoEscape"], unfollowed := true, recurses := true, named := ["unicode/utf8.first", "unicode/utf8.acceptRanges"], apart := false, laid := [("unicode/utf8.acceptRanges", laid_unicode_utf8_acceptRanges), ("unicode/utf8.first", laid_unicode_utf8_first)] }
def ClusterSumsSaid : Prop := clusterSumsRow.holds Tryd.pinned (OpenSpec.ofChange clusterSumsSpec)

/-- ITS FALSE NEIGHBOUR: 'it returns false'. Refute it at one input. -/
def clusterSumsWrong : ChangeSpec := { name := "clusterSums", fn := fun _ => fun
  | [d1, d2] => { results := [.lit (.bool false)], args := [d1, d2] }
  | _ => none }
def ClusterSumsWrongFalsely : Prop := clusterSumsRow.holds Tryd.pinned (OpenSpec.ofChange clusterSumsWrong)

/-- 'bodkinlaw03.ClusterSteps': WHATEVER THE INPUT: true; the input reads as it did. -/
def clusterStepsSpec : ChangeSpec := { name := "clusterSteps", fn := fun _ => fun
  | [d] => { results := [.lit (.bool true)], args := [d] }
  | _ => none }
def clusterStepsRow : OpenClaim := { program := "ytfhnfhgpaoddbaadoor", sum := "0c5e0ec20b6238b3bca7e6053ea03b6d9a393c843378b949c328eeb0531b4c43", func := "bodkin/bodkinlaw03.ClusterSteps", spec := "clusterSteps", inPlace := ["internal/abi.NoEscape"], unfollowed := true, recurses := true, named := ["unicode/utf8.first", "unicode/utf8.acceptRanges"], apart := false, laid := [("unicode/utf8.acceptRanges", laid_unicode_utf8_acceptRanges), ("unicode/utf8.first", laid_unicode_utf8_first)] }
def ClusterStepsSaid : Prop := clusterStepsRow.holds Tryd.pinned (OpenSpec.ofChange clusterStepsSpec)

/-- ITS FALSE NEIGHBOUR: 'it returns false'. Refute it at one input. -/
def clusterStepsWrong : ChangeSpec := { name := "clusterSteps", fn := fun _ => fun
  | [d] => { results := [.lit (.bool false)], args := [d] }
  | _ => none }
def ClusterStepsWrongFalsely : Prop := clusterStepsRow.holds Tryd.pinned (OpenSpec.ofChange clusterStepsWrong)

/-- 'bodkinlaw03.ClusterShows': WHATEVER THE INPUT: true; the input reads as it did. -/
def clusterShowsSpec : ChangeSpec := { name := "clusterShows", fn := fun _ => fun
  | [d] => { results := [.lit (.bool true)], args := [d] }
  | _ => none }
def clusterShowsRow : OpenClaim := { program := "ytfhnfhgpaoddbaadoor", sum := "0c5e0ec20b6238b3bca7e6053ea03b6d9a393c843378b949c328eeb0531b4c43", func := "bodkin/bodkinlaw03.ClusterShows", spec := "clusterShows", inPlace := ["internal/abi.NoEscape"], unfollowed := true, recurses := true, named := ["unicode/utf8.first", "unicode/utf8.acceptRanges"], apart := false, laid := [("unicode/utf8.acceptRanges", laid_unicode_utf8_acceptRanges), ("unicode/utf8.first", laid_unicode_utf8_first)] }
def ClusterShowsSaid : Prop := clusterShowsRow.holds Tryd.pinned (OpenSpec.ofChange clusterShowsSpec)

/-- ITS FALSE NEIGHBOUR: 'it returns false'. Refute it at one input. -/
def clusterShowsWrong : ChangeSpec := { name := "clusterShows", fn := fun _ => fun
  | [d] => { results := [.lit (.bool false)], args := [d] }
  | _ => none }
def ClusterShowsWrongFalsely : Prop := clusterShowsRow.holds Tryd.pinned (OpenSpec.ofChange clusterShowsWrong)

/- THE SECOND FORM. 'bulk': how many values and letters a reading holds, each counted each time it is reached (what is shared counts as often as it is met; a slice's spare places count too). A statement '..UptoSaid' is the law's where the arguments, and the package variables that the reading takes, are together of bulk at most 1048576: NARROWER than '..Said'. Prove '..Said' where nothing that the law and all that it calls make is longer than what came in: it says more and counts as full. Else prove '..UptoSaid'. A law counts once. -/
mutual
def uptoBulk {H : Type} : DataW H → Nat
  | .lit (.string bytes) => bytes.length + 1
  | .lit _ => 1
  | .nil => 1
  | .ptr d => uptoBulk d + 1
  | .slice elems spare => uptoBulkAll elems + uptoBulkAll spare + 1
  | .agg parts => uptoBulkAll parts + 1
  | .iface _ d => uptoBulk d + 1
  | .map entries => uptoBulkEntries entries + 1
  | .held _ => 1
def uptoBulkAll {H : Type} : List (DataW H) → Nat
  | [] => 0
  | d :: r => uptoBulk d + uptoBulkAll r
def uptoBulkEntries {H : Type} : List (Lit × DataW H) → Nat
  | [] => 0
  | x :: r => uptoBulkEntry x + uptoBulkEntries r
def uptoBulkEntry {H : Type} : Lit × DataW H → Nat
  | (.string bytes, d) => bytes.length + uptoBulk d + 1
  | (_, d) => uptoBulk d + 1
 end
def uptoSmall : (H : Type) → List (DataW H) → Bool := fun _ ds => decide (uptoBulkAll ds ≤ 1048576)
def OpenSpec.upto (s : _root_.Go.ChangeSpec) : _root_.Go.OpenSpec := { _root_.Go.OpenSpec.ofChange s with cond := some uptoSmall }

/-- 'bodkinlaw01.UnitLocal', WHERE WHAT IT READS IS OF BULK AT MOST 1048576: true; the input reads as it did. -/
def unitLocalUptoRow : OpenClaim := { program := "ytfhnfhgpaoddbaadoor", sum := "0c5e0ec20b6238b3bca7e6053ea03b6d9a393c843378b949c328eeb0531b4c43", func := "bodkin/bodkinlaw01.UnitLocal", spec := "unitLocal", unfollowed := true, recurses := true, named := ["unicode/utf8.first", "unicode/utf8.acceptRanges"], apart := false, laid := [("unicode/utf8.acceptRanges", laid_unicode_utf8_acceptRanges), ("unicode/utf8.first", laid_unicode_utf8_first)], narrowed := true }
def UnitLocalUptoSaid : Prop := unitLocalUptoRow.holds Tryd.pinned (OpenSpec.upto unitLocalSpec)

/-- 'bodkinlaw01.UnitFresh', WHERE WHAT IT READS IS OF BULK AT MOST 1048576: true; the input reads as it did. -/
def unitFreshUptoRow : OpenClaim := { program := "ytfhnfhgpaoddbaadoor", sum := "0c5e0ec20b6238b3bca7e6053ea03b6d9a393c843378b949c328eeb0531b4c43", func := "bodkin/bodkinlaw01.UnitFresh", spec := "unitFresh", unfollowed := true, recurses := true, named := ["unicode/utf8.first", "unicode/utf8.acceptRanges"], apart := false, laid := [("unicode/utf8.acceptRanges", laid_unicode_utf8_acceptRanges), ("unicode/utf8.first", laid_unicode_utf8_first)], narrowed := true }
def UnitFreshUptoSaid : Prop := unitFreshUptoRow.holds Tryd.pinned (OpenSpec.upto unitFreshSpec)

/-- 'bodkinlaw01.UnitSeams', WHERE WHAT IT READS IS OF BULK AT MOST 1048576: true; the input reads as it did. -/
def unitSeamsUptoRow : OpenClaim := { program := "ytfhnfhgpaoddbaadoor", sum := "0c5e0ec20b6238b3bca7e6053ea03b6d9a393c843378b949c328eeb0531b4c43", func := "bodkin/bodkinlaw01.UnitSeams", spec := "unitSeams", unfollowed := true, recurses := true, named := ["unicode/utf8.first", "unicode/utf8.acceptRanges"], apart := false, laid := [("unicode/utf8.acceptRanges", laid_unicode_utf8_acceptRanges), ("unicode/utf8.first", laid_unicode_utf8_first)], narrowed := true }
def UnitSeamsUptoSaid : Prop := unitSeamsUptoRow.holds Tryd.pinned (OpenSpec.upto unitSeamsSpec)

/-- 'bodkinlaw01.UnitLists', WHERE WHAT IT READS IS OF BULK AT MOST 1048576: true; the input reads as it did. -/
def unitListsUptoRow : OpenClaim := { program := "ytfhnfhgpaoddbaadoor", sum := "0c5e0ec20b6238b3bca7e6053ea03b6d9a393c843378b949c328eeb0531b4c43", func := "bodkin/bodkinlaw01.UnitLists", spec := "unitLists", unfollowed := true, recurses := true, named := ["unicode/utf8.first", "unicode/utf8.acceptRanges"], apart := false, laid := [("unicode/utf8.acceptRanges", laid_unicode_utf8_acceptRanges), ("unicode/utf8.first", laid_unicode_utf8_first)], narrowed := true }
def UnitListsUptoSaid : Prop := unitListsUptoRow.holds Tryd.pinned (OpenSpec.upto unitListsSpec)

/-- 'bodkinlaw01.UnitAsks', WHERE WHAT IT READS IS OF BULK AT MOST 1048576: true; the input reads as it did. -/
def unitAsksUptoRow : OpenClaim := { program := "ytfhnfhgpaoddbaadoor", sum := "0c5e0ec20b6238b3bca7e6053ea03b6d9a393c843378b949c328eeb0531b4c43", func := "bodkin/bodkinlaw01.UnitAsks", spec := "unitAsks", unfollowed := true, recurses := true, named := ["unicode/utf8.first", "unicode/utf8.acceptRanges"], apart := false, laid := [("unicode/utf8.acceptRanges", laid_unicode_utf8_acceptRanges), ("unicode/utf8.first", laid_unicode_utf8_first)], narrowed := true }
def UnitAsksUptoSaid : Prop := unitAsksUptoRow.holds Tryd.pinned (OpenSpec.upto unitAsksSpec)

/-- 'bodkinlaw01.UnitSteps', WHERE WHAT IT READS IS OF BULK AT MOST 1048576: true; the input reads as it did. -/
def unitStepsUptoRow : OpenClaim := { program := "ytfhnfhgpaoddbaadoor", sum := "0c5e0ec20b6238b3bca7e6053ea03b6d9a393c843378b949c328eeb0531b4c43", func := "bodkin/bodkinlaw01.UnitSteps", spec := "unitSteps", unfollowed := true, recurses := true, named := ["unicode/utf8.first", "unicode/utf8.acceptRanges"], apart := false, laid := [("unicode/utf8.acceptRanges", laid_unicode_utf8_acceptRanges), ("unicode/utf8.first", laid_unicode_utf8_first)], narrowed := true }
def UnitStepsUptoSaid : Prop := unitStepsUptoRow.holds Tryd.pinned (OpenSpec.upto unitStepsSpec)

/-- 'bodkinlaw01.UnitBegins', WHERE WHAT IT READS IS OF BULK AT MOST 1048576: true; the input reads as it did. -/
def unitBeginsUptoRow : OpenClaim := { program := "ytfhnfhgpaoddbaadoor", sum := "0c5e0ec20b6238b3bca7e6053ea03b6d9a393c843378b949c328eeb0531b4c43", func := "bodkin/bodkinlaw01.UnitBegins", spec := "unitBegins", unfollowed := true, recurses := true, named := ["unicode/utf8.first", "unicode/utf8.acceptRanges"], apart := false, laid := [("unicode/utf8.acceptRanges", laid_unicode_utf8_acceptRanges), ("unicode/utf8.first", laid_unicode_utf8_first)], narrowed := true }
def UnitBeginsUptoSaid : Prop := unitBeginsUptoRow.holds Tryd.pinned (OpenSpec.upto unitBeginsSpec)

/-- 'bodkinlaw01.UnitEncodes', WHERE WHAT IT READS IS OF BULK AT MOST 1048576: true; the input reads as it did. -/
def unitEncodesUptoRow : OpenClaim := { program := "ytfhnfhgpaoddbaadoor", sum := "0c5e0ec20b6238b3bca7e6053ea03b6d9a393c843378b949c328eeb0531b4c43", func := "bodkin/bodkinlaw01.UnitEncodes", spec := "unitEncodes", unfollowed := true, recurses := true, named := ["unicode/utf8.first", "unicode/utf8.acceptRanges"], apart := false, laid := [("unicode/utf8.acceptRanges", laid_unicode_utf8_acceptRanges), ("unicode/utf8.first", laid_unicode_utf8_first)], narrowed := true }
def UnitEncodesUptoSaid : Prop := unitEncodesUptoRow.holds Tryd.pinned (OpenSpec.upto unitEncodesSpec)

/-- 'bodkinlaw01.UnitTiles', WHERE WHAT IT READS IS OF BULK AT MOST 1048576: true; the input reads as it did. -/
def unitTilesUptoRow : OpenClaim := { program := "ytfhnfhgpaoddbaadoor", sum := "0c5e0ec20b6238b3bca7e6053ea03b6d9a393c843378b949c328eeb0531b4c43", func := "bodkin/bodkinlaw01.UnitTiles", spec := "unitTiles", unfollowed := true, recurses := true, named := ["unicode/utf8.first", "unicode/utf8.acceptRanges"], apart := false, laid := [("unicode/utf8.acceptRanges", laid_unicode_utf8_acceptRanges), ("unicode/utf8.first", laid_unicode_utf8_first)], narrowed := true }
def UnitTilesUptoSaid : Prop := unitTilesUptoRow.holds Tryd.pinned (OpenSpec.upto unitTilesSpec)

/-- 'bodkinlaw01.UnitBack', WHERE WHAT IT READS IS OF BULK AT MOST 1048576: true; the input reads as it did. -/
def unitBackUptoRow : OpenClaim := { program := "ytfhnfhgpaoddbaadoor", sum := "0c5e0ec20b6238b3bca7e6053ea03b6d9a393c843378b949c328eeb0531b4c43", func := "bodkin/bodkinlaw01.UnitBack", spec := "unitBack", unfollowed := true, recurses := true, named := ["unicode/utf8.first", "unicode/utf8.acceptRanges"], apart := false, laid := [("unicode/utf8.acceptRanges", laid_unicode_utf8_acceptRanges), ("unicode/utf8.first", laid_unicode_utf8_first)], narrowed := true }
def UnitBackUptoSaid : Prop := unitBackUptoRow.holds Tryd.pinned (OpenSpec.upto unitBackSpec)

/-- 'bodkinlaw03.ClusterWalks', WHERE WHAT IT READS IS OF BULK AT MOST 1048576: true; the input reads as it did. -/
def clusterWalksUptoRow : OpenClaim := { program := "ytfhnfhgpaoddbaadoor", sum := "0c5e0ec20b6238b3bca7e6053ea03b6d9a393c843378b949c328eeb0531b4c43", func := "bodkin/bodkinlaw03.ClusterWalks", spec := "clusterWalks", inPlace := ["internal/abi.NoEscape"], unfollowed := true, recurses := true, named := ["unicode/utf8.first", "unicode/utf8.acceptRanges"], apart := false, laid := [("unicode/utf8.acceptRanges", laid_unicode_utf8_acceptRanges), ("unicode/utf8.first", laid_unicode_utf8_first)], narrowed := true }
def ClusterWalksUptoSaid : Prop := clusterWalksUptoRow.holds Tryd.pinned (OpenSpec.upto clusterWalksSpec)

/-- 'bodkinlaw03.ClusterNear', WHERE WHAT IT READS IS OF BULK AT MOST 1048576: true; the input reads as it did. -/
def clusterNearUptoRow : OpenClaim := { program := "ytfhnfhgpaoddbaadoor", sum := "0c5e0ec20b6238b3bca7e6053ea03b6d9a393c843378b949c328eeb0531b4c43", func := "bodkin/bodkinlaw03.ClusterNear", spec := "clusterNear", inPlace := ["internal/abi.NoEscape"], unfollowed := true, recurses := true, named := ["unicode/utf8.first", "unicode/utf8.acceptRanges"], apart := false, laid := [("unicode/utf8.acceptRanges", laid_unicode_utf8_acceptRanges), ("unicode/utf8.first", laid_unicode_utf8_first)], narrowed := true }
def ClusterNearUptoSaid : Prop := clusterNearUptoRow.holds Tryd.pinned (OpenSpec.upto clusterNearSpec)

/-- 'bodkinlaw03.ClusterKeeps', WHERE WHAT IT READS IS OF BULK AT MOST 1048576: true; the input reads as it did. -/
def clusterKeepsUptoRow : OpenClaim := { program := "ytfhnfhgpaoddbaadoor", sum := "0c5e0ec20b6238b3bca7e6053ea03b6d9a393c843378b949c328eeb0531b4c43", func := "bodkin/bodkinlaw03.ClusterKeeps", spec := "clusterKeeps", inPlace := ["internal/abi.NoEscape"], unfollowed := true, recurses := true, named := ["unicode/utf8.first", "unicode/utf8.acceptRanges"], apart := false, laid := [("unicode/utf8.acceptRanges", laid_unicode_utf8_acceptRanges), ("unicode/utf8.first", laid_unicode_utf8_first)], narrowed := true }
def ClusterKeepsUptoSaid : Prop := clusterKeepsUptoRow.holds Tryd.pinned (OpenSpec.upto clusterKeepsSpec)

/-- 'bodkinlaw03.ClusterPlaces', WHERE WHAT IT READS IS OF BULK AT MOST 1048576: true; the input reads as it did. -/
def clusterPlacesUptoRow : OpenClaim := { program := "ytfhnfhgpaoddbaadoor", sum := "0c5e0ec20b6238b3bca7e6053ea03b6d9a393c843378b949c328eeb0531b4c43", func := "bodkin/bodkinlaw03.ClusterPlaces", spec := "clusterPlaces", inPlace := ["internal/abi.NoEscape"], unfollowed := true, recurses := true, named := ["unicode/utf8.first", "unicode/utf8.acceptRanges"], apart := false, laid := [("unicode/utf8.acceptRanges", laid_unicode_utf8_acceptRanges), ("unicode/utf8.first", laid_unicode_utf8_first)], narrowed := true }
def ClusterPlacesUptoSaid : Prop := clusterPlacesUptoRow.holds Tryd.pinned (OpenSpec.upto clusterPlacesSpec)

/-- 'bodkinlaw03.ClusterLists', WHERE WHAT IT READS IS OF BULK AT MOST 1048576: true; the input reads as it did. -/
def clusterListsUptoRow : OpenClaim := { program := "ytfhnfhgpaoddbaadoor", sum := "0c5e0ec20b6238b3bca7e6053ea03b6d9a393c843378b949c328eeb0531b4c43", func := "bodkin/bodkinlaw03.ClusterLists", spec := "clusterLists", inPlace := ["internal/abi.NoEscape"], unfollowed := true, recurses := true, named := ["unicode/utf8.first", "unicode/utf8.acceptRanges"], apart := false, laid := [("unicode/utf8.acceptRanges", laid_unicode_utf8_acceptRanges), ("unicode/utf8.first", laid_unicode_utf8_first)], narrowed := true }
def ClusterListsUptoSaid : Prop := clusterListsUptoRow.holds Tryd.pinned (OpenSpec.upto clusterListsSpec)

/-- 'bodkinlaw03.ClusterSums', WHERE WHAT IT READS IS OF BULK AT MOST 1048576: true; the input reads as it did. -/
def clusterSumsUptoRow : OpenClaim := { program := "ytfhnfhgpaoddbaadoor", sum := "0c5e0ec20b6238b3bca7e6053ea03b6d9a393c843378b949c328eeb0531b4c43", func := "bodkin/bodkinlaw03.ClusterSums", spec := "clusterSums", inPlace := ["internal/abi.NoEscape"], unfollowed := true, recurses := true, named := ["unicode/utf8.first", "unicode/utf8.acceptRanges"], apart := false, laid := [("unicode/utf8.acceptRanges", laid_unicode_utf8_acceptRanges), ("unicode/utf8.first", laid_unicode_utf8_first)], narrowed := true }
def ClusterSumsUptoSaid : Prop := clusterSumsUptoRow.holds Tryd.pinned (OpenSpec.upto clusterSumsSpec)

/-- 'bodkinlaw03.ClusterSteps', WHERE WHAT IT READS IS OF BULK AT MOST 1048576: true; the input reads as it did. -/
def clusterStepsUptoRow : OpenClaim := { program := "ytfhnfhgpaoddbaadoor", sum := "0c5e0ec20b6238b3bca7e6053ea03b6d9a393c843378b949c328eeb0531b4c43", func := "bodkin/bodkinlaw03.ClusterSteps", spec := "clusterSteps", inPlace := ["internal/abi.NoEscape"], unfollowed := true, recurses := true, named := ["unicode/utf8.first", "unicode/utf8.acceptRanges"], apart := false, laid := [("unicode/utf8.acceptRanges", laid_unicode_utf8_acceptRanges), ("unicode/utf8.first", laid_unicode_utf8_first)], narrowed := true }
def ClusterStepsUptoSaid : Prop := clusterStepsUptoRow.holds Tryd.pinned (OpenSpec.upto clusterStepsSpec)

/-- 'bodkinlaw03.ClusterShows', WHERE WHAT IT READS IS OF BULK AT MOST 1048576: true; the input reads as it did. -/
def clusterShowsUptoRow : OpenClaim := { program := "ytfhnfhgpaoddbaadoor", sum := "0c5e0ec20b6238b3bca7e6053ea03b6d9a393c843378b949c328eeb0531b4c43", func := "bodkin/bodkinlaw03.ClusterShows", spec := "clusterShows", inPlace := ["internal/abi.NoEscape"], unfollowed := true, recurses := true, named := ["unicode/utf8.first", "unicode/utf8.acceptRanges"], apart := false, laid := [("unicode/utf8.acceptRanges", laid_unicode_utf8_acceptRanges), ("unicode/utf8.first", laid_unicode_utf8_first)], narrowed := true }
def ClusterShowsUptoSaid : Prop := clusterShowsUptoRow.holds Tryd.pinned (OpenSpec.upto clusterShowsSpec)

end Rows
end Go.Proofs.YtfhnfhgpaoddbaaDoor
