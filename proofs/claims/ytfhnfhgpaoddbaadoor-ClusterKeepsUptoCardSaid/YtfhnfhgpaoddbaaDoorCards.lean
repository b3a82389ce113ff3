/-
  DERIVED. GIVEN WITH THE SEED: THE CARDS: each row of YtfhnfhgpaoddbaaDoorRows.lean that lists a variable, with what it lists TIED to the program's text (the seventh form; the later family's looks); each row that meets fmt, with fmt's text TOLD by the authors' own Lean function (tested against real Go, not proved from fmt's source: count such statements apart). THE CARD IS WHAT COUNTS. Prove the row's statement (the work); the ties are given (YtfhnfhgpaoddbaaDoorTie.lean); close each card by the builder's one call (the guide's Derived/Test/ToyasCard.lean, 'card_holds'). Laid BY PROGRAM, IN A SANDBOX (cutbox-door.mjs). By AI agents, Wed Nov 11 2026. No macro, syntax, notation, axiom, sorry.
-/
import Derived.Test.YtfhnfhgpaoddbaaDoorRows
import GoSem.ClaimSeven
namespace Go.Proofs.YtfhnfhgpaoddbaaDoor
namespace Rows

/-- THE TIED CARD OF 'bodkinlaw01.UnitLocal'. -/
def unitLocalCard : Claim7 := { stood := { row := unitLocalRow, standIns := [], harness := (true, "740247f80adb5e5a77477c389b58f867915c99bdf9b6f41c812406a5e15eb3b8"), looks := false }, kinds := [], alts := [], laidByText := true, laidKinds := [.data, .pinned], laidTests := true, laidLooks := .later }
def UnitLocalCardSaid : Prop := Claim7.holds Tryd.pinned (.plain (OpenSpec.ofChange unitLocalSpec)) unitLocalCard

/-- THE TIED CARD OF 'bodkinlaw01.UnitFresh'. -/
def unitFreshCard : Claim7 := { stood := { row := unitFreshRow, standIns := [], harness := (true, "740247f80adb5e5a77477c389b58f867915c99bdf9b6f41c812406a5e15eb3b8"), looks := false }, kinds := [], alts := [], laidByText := true, laidKinds := [.data, .pinned], laidTests := true, laidLooks := .later }
def UnitFreshCardSaid : Prop := Claim7.holds Tryd.pinned (.plain (OpenSpec.ofChange unitFreshSpec)) unitFreshCard

/-- THE TIED CARD OF 'bodkinlaw01.UnitSeams'. -/
def unitSeamsCard : Claim7 := { stood := { row := unitSeamsRow, standIns := [], harness := (true, "740247f80adb5e5a77477c389b58f867915c99bdf9b6f41c812406a5e15eb3b8"), looks := false }, kinds := [], alts := [], laidByText := true, laidKinds := [.data, .pinned], laidTests := true, laidLooks := .later }
def UnitSeamsCardSaid : Prop := Claim7.holds Tryd.pinned (.plain (OpenSpec.ofChange unitSeamsSpec)) unitSeamsCard

/-- THE TIED CARD OF 'bodkinlaw01.UnitLists'. -/
def unitListsCard : Claim7 := { stood := { row := unitListsRow, standIns := [], harness := (true, "740247f80adb5e5a77477c389b58f867915c99bdf9b6f41c812406a5e15eb3b8"), looks := false }, kinds := [], alts := [], laidByText := true, laidKinds := [.data, .pinned], laidTests := true, laidLooks := .later }
def UnitListsCardSaid : Prop := Claim7.holds Tryd.pinned (.plain (OpenSpec.ofChange unitListsSpec)) unitListsCard

/-- THE TIED CARD OF 'bodkinlaw01.UnitAsks'. -/
def unitAsksCard : Claim7 := { stood := { row := unitAsksRow, standIns := [], harness := (true, "740247f80adb5e5a77477c389b58f867915c99bdf9b6f41c812406a5e15eb3b8"), looks := false }, kinds := [], alts := [], laidByText := true, laidKinds := [.data, .pinned], laidTests := true, laidLooks := .later }
def UnitAsksCardSaid : Prop := Claim7.holds Tryd.pinned (.plain (OpenSpec.ofChange unitAsksSpec)) unitAsksCard

/-- THE TIED CARD OF 'bodkinlaw01.UnitSteps'. -/
def unitStepsCard : Claim7 := { stood := { row := unitStepsRow, standIns := [], harness := (true, "740247f80adb5e5a77477c389b58f867915c99bdf9b6f41c812406a5e15eb3b8"), looks := false }, kinds := [], alts := [], laidByText := true, laidKinds := [.data, .pinned], laidTests := true, laidLooks := .later }
def UnitStepsCardSaid : Prop := Claim7.holds Tryd.pinned (.plain (OpenSpec.ofChange unitStepsSpec)) unitStepsCard

/-- THE TIED CARD OF 'bodkinlaw01.UnitBegins'. -/
def unitBeginsCard : Claim7 := { stood := { row := unitBeginsRow, standIns := [], harness := (true, "740247f80adb5e5a77477c389b58f867915c99bdf9b6f41c812406a5e15eb3b8"), looks := false }, kinds := [], alts := [], laidByText := true, laidKinds := [.data, .pinned], laidTests := true, laidLooks := .later }
def UnitBeginsCardSaid : Prop := Claim7.holds Tryd.pinned (.plain (OpenSpec.ofChange unitBeginsSpec)) unitBeginsCard

/-- THE TIED CARD OF 'bodkinlaw01.UnitEncodes'. -/
def unitEncodesCard : Claim7 := { stood := { row := unitEncodesRow, standIns := [], harness := (true, "740247f80adb5e5a77477c389b58f867915c99bdf9b6f41c812406a5e15eb3b8"), looks := false }, kinds := [], alts := [], laidByText := true, laidKinds := [.data, .pinned], laidTests := true, laidLooks := .later }
def UnitEncodesCardSaid : Prop := Claim7.holds Tryd.pinned (.plain (OpenSpec.ofChange unitEncodesSpec)) unitEncodesCard

/-- THE TIED CARD OF 'bodkinlaw01.UnitTiles'. -/
def unitTilesCard : Claim7 := { stood := { row := unitTilesRow, standIns := [], harness := (true, "740247f80adb5e5a77477c389b58f867915c99bdf9b6f41c812406a5e15eb3b8"), looks := false }, kinds := [], alts := [], laidByText := true, laidKinds := [.data, .pinned], laidTests := true, laidLooks := .later }
def UnitTilesCardSaid : Prop := Claim7.holds Tryd.pinned (.plain (OpenSpec.ofChange unitTilesSpec)) unitTilesCard

/-- THE TIED CARD OF 'bodkinlaw01.UnitBack'. -/
def unitBackCard : Claim7 := { stood := { row := unitBackRow, standIns := [], harness := (true, "740247f80adb5e5a77477c389b58f867915c99bdf9b6f41c812406a5e15eb3b8"), looks := false }, kinds := [], alts := [], laidByText := true, laidKinds := [.data, .pinned], laidTests := true, laidLooks := .later }
def UnitBackCardSaid : Prop := Claim7.holds Tryd.pinned (.plain (OpenSpec.ofChange unitBackSpec)) unitBackCard

/-- THE TIED CARD OF 'bodkinlaw03.ClusterWalks'. -/
def clusterWalksCard : Claim7 := { stood := { row := clusterWalksRow, standIns := [], harness := (true, "740247f80adb5e5a77477c389b58f867915c99bdf9b6f41c812406a5e15eb3b8"), looks := false }, kinds := [], alts := [], laidByText := true, laidKinds := [.data, .pinned], laidTests := true, laidLooks := .later }
def ClusterWalksCardSaid : Prop := Claim7.holds Tryd.pinned (.plain (OpenSpec.ofChange clusterWalksSpec)) clusterWalksCard

/-- THE TIED CARD OF 'bodkinlaw03.ClusterNear'. -/
def clusterNearCard : Claim7 := { stood := { row := clusterNearRow, standIns := [], harness := (true, "740247f80adb5e5a77477c389b58f867915c99bdf9b6f41c812406a5e15eb3b8"), looks := false }, kinds := [], alts := [], laidByText := true, laidKinds := [.data, .pinned], laidTests := true, laidLooks := .later }
def ClusterNearCardSaid : Prop := Claim7.holds Tryd.pinned (.plain (OpenSpec.ofChange clusterNearSpec)) clusterNearCard

/-- THE TIED CARD OF 'bodkinlaw03.ClusterKeeps'. -/
def clusterKeepsCard : Claim7 := { stood := { row := clusterKeepsRow, standIns := [], harness := (true, "740247f80adb5e5a77477c389b58f867915c99bdf9b6f41c812406a5e15eb3b8"), looks := false }, kinds := [], alts := [], laidByText := true, laidKinds := [.data, .pinned], laidTests := true, laidLooks := .later }
def ClusterKeepsCardSaid : Prop := Claim7.holds Tryd.pinned (.plain (OpenSpec.ofChange clusterKeepsSpec)) clusterKeepsCard

/-- THE TIED CARD OF 'bodkinlaw03.ClusterPlaces'. -/
def clusterPlacesCard : Claim7 := { stood := { row := clusterPlacesRow, standIns := [], harness := (true, "740247f80adb5e5a77477c389b58f867915c99bdf9b6f41c812406a5e15eb3b8"), looks := false }, kinds := [], alts := [], laidByText := true, laidKinds := [.data, .pinned], laidTests := true, laidLooks := .later }
def ClusterPlacesCardSaid : Prop := Claim7.holds Tryd.pinned (.plain (OpenSpec.ofChange clusterPlacesSpec)) clusterPlacesCard

/-- THE TIED CARD OF 'bodkinlaw03.ClusterLists'. -/
def clusterListsCard : Claim7 := { stood := { row := clusterListsRow, standIns := [], harness := (true, "740247f80adb5e5a77477c389b58f867915c99bdf9b6f41c812406a5e15eb3b8"), looks := false }, kinds := [], alts := [], laidByText := true, laidKinds := [.data, .pinned], laidTests := true, laidLooks := .later }
def ClusterListsCardSaid : Prop := Claim7.holds Tryd.pinned (.plain (OpenSpec.ofChange clusterListsSpec)) clusterListsCard

/-- THE TIED CARD OF 'bodkinlaw03.ClusterSums'. -/
def clusterSumsCard : Claim7 := { stood := { row := clusterSumsRow, standIns := [], harness := (true, "740247f80adb5e5a77477c389b58f867915c99bdf9b6f41c812406a5e15eb3b8"), looks := false }, kinds := [], alts := [], laidByText := true, laidKinds := [.data, .pinned], laidTests := true, laidLooks := .later }
def ClusterSumsCardSaid : Prop := Claim7.holds Tryd.pinned (.plain (OpenSpec.ofChange clusterSumsSpec)) clusterSumsCard

/-- THE TIED CARD OF 'bodkinlaw03.ClusterSteps'. -/
def clusterStepsCard : Claim7 := { stood := { row := clusterStepsRow, standIns := [], harness := (true, "740247f80adb5e5a77477c389b58f867915c99bdf9b6f41c812406a5e15eb3b8"), looks := false }, kinds := [], alts := [], laidByText := true, laidKinds := [.data, .pinned], laidTests := true, laidLooks := .later }
def ClusterStepsCardSaid : Prop := Claim7.holds Tryd.pinned (.plain (OpenSpec.ofChange clusterStepsSpec)) clusterStepsCard

/-- THE TIED CARD OF 'bodkinlaw03.ClusterShows'. -/
def clusterShowsCard : Claim7 := { stood := { row := clusterShowsRow, standIns := [], harness := (true, "740247f80adb5e5a77477c389b58f867915c99bdf9b6f41c812406a5e15eb3b8"), looks := false }, kinds := [], alts := [], laidByText := true, laidKinds := [.data, .pinned], laidTests := true, laidLooks := .later }
def ClusterShowsCardSaid : Prop := Claim7.holds Tryd.pinned (.plain (OpenSpec.ofChange clusterShowsSpec)) clusterShowsCard

/-- THE SECOND FORM's CARD OF 'bodkinlaw01.UnitLocal'. -/
def unitLocalUptoCard : Claim7 := { stood := { row := unitLocalUptoRow, standIns := [], harness := (true, "740247f80adb5e5a77477c389b58f867915c99bdf9b6f41c812406a5e15eb3b8"), looks := false }, kinds := [], alts := [], laidByText := true, laidKinds := [.data, .pinned], laidTests := true, laidLooks := .later }
def UnitLocalUptoCardSaid : Prop := Claim7.holds Tryd.pinned (.plain (OpenSpec.upto unitLocalSpec)) unitLocalUptoCard

/-- THE SECOND FORM's CARD OF 'bodkinlaw01.UnitFresh'. -/
def unitFreshUptoCard : Claim7 := { stood := { row := unitFreshUptoRow, standIns := [], harness := (true, "740247f80adb5e5a77477c389b58f867915c99bdf9b6f41c812406a5e15eb3b8"), looks := false }, kinds := [], alts := [], laidByText := true, laidKinds := [.data, .pinned], laidTests := true, laidLooks := .later }
def UnitFreshUptoCardSaid : Prop := Claim7.holds Tryd.pinned (.plain (OpenSpec.upto unitFreshSpec)) unitFreshUptoCard

/-- THE SECOND FORM's CARD OF 'bodkinlaw01.UnitSeams'. -/
def unitSeamsUptoCard : Claim7 := { stood := { row := unitSeamsUptoRow, standIns := [], harness := (true, "740247f80adb5e5a77477c389b58f867915c99bdf9b6f41c812406a5e15eb3b8"), looks := false }, kinds := [], alts := [], laidByText := true, laidKinds := [.data, .pinned], laidTests := true, laidLooks := .later }
def UnitSeamsUptoCardSaid : Prop := Claim7.holds Tryd.pinned (.plain (OpenSpec.upto unitSeamsSpec)) unitSeamsUptoCard

/-- THE SECOND FORM's CARD OF 'bodkinlaw01.UnitLists'. -/
def unitListsUptoCard : Claim7 := { stood := { row := unitListsUptoRow, standIns := [], harness := (true, "740247f80adb5e5a77477c389b58f867915c99bdf9b6f41c812406a5e15eb3b8"), looks := false }, kinds := [], alts := [], laidByText := true, laidKinds := [.data, .pinned], laidTests := true, laidLooks := .later }
def UnitListsUptoCardSaid : Prop := Claim7.holds Tryd.pinned (.plain (OpenSpec.upto unitListsSpec)) unitListsUptoCard

/-- THE SECOND FORM's CARD OF 'bodkinlaw01.UnitAsks'. -/
def unitAsksUptoCard : Claim7 := { stood := { row := unitAsksUptoRow, standIns := [], harness := (true, "740247f80adb5e5a77477c389b58f867915c99bdf9b6f41c812406a5e15eb3b8"), looks := false }, kinds := [], alts := [], laidByText := true, laidKinds := [.data, .pinned], laidTests := true, laidLooks := .later }
def UnitAsksUptoCardSaid : Prop := Claim7.holds Tryd.pinned (.plain (OpenSpec.upto unitAsksSpec)) unitAsksUptoCard

/-- THE SECOND FORM's CARD OF 'bodkinlaw01.UnitSteps'. -/
def unitStepsUptoCard : Claim7 := { stood := { row := unitStepsUptoRow, standIns := [], harness := (true, "740247f80adb5e5a77477c389b58f867915c99bdf9b6f41c812406a5e15eb3b8"), looks := false }, kinds := [], alts := [], laidByText := true, laidKinds := [.data, .pinned], laidTests := true, laidLooks := .later }
def UnitStepsUptoCardSaid : Prop := Claim7.holds Tryd.pinned (.plain (OpenSpec.upto unitStepsSpec)) unitStepsUptoCard

/-- THE SECOND FORM's CARD OF 'bodkinlaw01.UnitBegins'. -/
def unitBeginsUptoCard : Claim7 := { stood := { row := unitBeginsUptoRow, standIns := [], harness := (true, "740247f80adb5e5a77477c389b58f867915c99bdf9b6f41c812406a5e15eb3b8"), looks := false }, kinds := [], alts := [], laidByText := true, laidKinds := [.data, .pinned], laidTests := true, laidLooks := .later }
def UnitBeginsUptoCardSaid : Prop := Claim7.holds Tryd.pinned (.plain (OpenSpec.upto unitBeginsSpec)) unitBeginsUptoCard

/-- THE SECOND FORM's CARD OF 'bodkinlaw01.UnitEncodes'. -/
def unitEncodesUptoCard : Claim7 := { stood := { row := unitEncodesUptoRow, standIns := [], harness := (true, "740247f80adb5e5a77477c389b58f867915c99bdf9b6f41c812406a5e15eb3b8"), looks := false }, kinds := [], alts := [], laidByText := true, laidKinds := [.data, .pinned], laidTests := true, laidLooks := .later }
def UnitEncodesUptoCardSaid : Prop := Claim7.holds Tryd.pinned (.plain (OpenSpec.upto unitEncodesSpec)) unitEncodesUptoCard

/-- THE SECOND FORM's CARD OF 'bodkinlaw01.UnitTiles'. -/
def unitTilesUptoCard : Claim7 := { stood := { row := unitTilesUptoRow, standIns := [], harness := (true, "740247f80adb5e5a77477c389b58f867915c99bdf9b6f41c812406a5e15eb3b8"), looks := false }, kinds := [], alts := [], laidByText := true, laidKinds := [.data, .pinned], laidTests := true, laidLooks := .later }
def UnitTilesUptoCardSaid : Prop := Claim7.holds Tryd.pinned (.plain (OpenSpec.upto unitTilesSpec)) unitTilesUptoCard

/-- THE SECOND FORM's CARD OF 'bodkinlaw01.UnitBack'. -/
def unitBackUptoCard : Claim7 := { stood := { row := unitBackUptoRow, standIns := [], harness := (true, "740247f80adb5e5a77477c389b58f867915c99bdf9b6f41c812406a5e15eb3b8"), looks := false }, kinds := [], alts := [], laidByText := true, laidKinds := [.data, .pinned], laidTests := true, laidLooks := .later }
def UnitBackUptoCardSaid : Prop := Claim7.holds Tryd.pinned (.plain (OpenSpec.upto unitBackSpec)) unitBackUptoCard

/-- THE SECOND FORM's CARD OF 'bodkinlaw03.ClusterWalks'. -/
def clusterWalksUptoCard : Claim7 := { stood := { row := clusterWalksUptoRow, standIns := [], harness := (true, "740247f80adb5e5a77477c389b58f867915c99bdf9b6f41c812406a5e15eb3b8"), looks := false }, kinds := [], alts := [], laidByText := true, laidKinds := [.data, .pinned], laidTests := true, laidLooks := .later }
def ClusterWalksUptoCardSaid : Prop := Claim7.holds Tryd.pinned (.plain (OpenSpec.upto clusterWalksSpec)) clusterWalksUptoCard

/-- THE SECOND FORM's CARD OF 'bodkinlaw03.ClusterNear'. -/
def clusterNearUptoCard : Claim7 := { stood := { row := clusterNearUptoRow, standIns := [], harness := (true, "740247f80adb5e5a77477c389b58f867915c99bdf9b6f41c812406a5e15eb3b8"), looks := false }, kinds := [], alts := [], laidByText := true, laidKinds := [.data, .pinned], laidTests := true, laidLooks := .later }
def ClusterNearUptoCardSaid : Prop := Claim7.holds Tryd.pinned (.plain (OpenSpec.upto clusterNearSpec)) clusterNearUptoCard

/-- THE SECOND FORM's CARD OF 'bodkinlaw03.ClusterKeeps'. -/
def clusterKeepsUptoCard : Claim7 := { stood := { row := clusterKeepsUptoRow, standIns := [], harness := (true, "740247f80adb5e5a77477c389b58f867915c99bdf9b6f41c812406a5e15eb3b8"), looks := false }, kinds := [], alts := [], laidByText := true, laidKinds := [.data, .pinned], laidTests := true, laidLooks := .later }
def ClusterKeepsUptoCardSaid : Prop := Claim7.holds Tryd.pinned (.plain (OpenSpec.upto clusterKeepsSpec)) clusterKeepsUptoCard

/-- THE SECOND FORM's CARD OF 'bodkinlaw03.ClusterPlaces'. -/
def clusterPlacesUptoCard : Claim7 := { stood := { row := clusterPlacesUptoRow, standIns := [], harness := (true, "740247f80adb5e5a77477c389b58f867915c99bdf9b6f41c812406a5e15eb3b8"), looks := false }, kinds := [], alts := [], laidByText := true, laidKinds := [.data, .pinned], laidTests := true, laidLooks := .later }
def ClusterPlacesUptoCardSaid : Prop := Claim7.holds Tryd.pinned (.plain (OpenSpec.upto clusterPlacesSpec)) clusterPlacesUptoCard

/-- THE SECOND FORM's CARD OF 'bodkinlaw03.ClusterLists'. -/
def clusterListsUptoCard : Claim7 := { stood := { row := clusterListsUptoRow, standIns := [], harness := (true, "740247f80adb5e5a77477c389b58f867915c99bdf9b6f41c812406a5e15eb3b8"), looks := false }, kinds := [], alts := [], laidByText := true, laidKinds := [.data, .pinned], laidTests := true, laidLooks := .later }
def ClusterListsUptoCardSaid : Prop := Claim7.holds Tryd.pinned (.plain (OpenSpec.upto clusterListsSpec)) clusterListsUptoCard

/-- THE SECOND FORM's CARD OF 'bodkinlaw03.ClusterSums'. -/
def clusterSumsUptoCard : Claim7 := { stood := { row := clusterSumsUptoRow, standIns := [], harness := (true, "740247f80adb5e5a77477c389b58f867915c99bdf9b6f41c812406a5e15eb3b8"), looks := false }, kinds := [], alts := [], laidByText := true, laidKinds := [.data, .pinned], laidTests := true, laidLooks := .later }
def ClusterSumsUptoCardSaid : Prop := Claim7.holds Tryd.pinned (.plain (OpenSpec.upto clusterSumsSpec)) clusterSumsUptoCard

/-- THE SECOND FORM's CARD OF 'bodkinlaw03.ClusterSteps'. -/
def clusterStepsUptoCard : Claim7 := { stood := { row := clusterStepsUptoRow, standIns := [], harness := (true, "740247f80adb5e5a77477c389b58f867915c99bdf9b6f41c812406a5e15eb3b8"), looks := false }, kinds := [], alts := [], laidByText := true, laidKinds := [.data, .pinned], laidTests := true, laidLooks := .later }
def ClusterStepsUptoCardSaid : Prop := Claim7.holds Tryd.pinned (.plain (OpenSpec.upto clusterStepsSpec)) clusterStepsUptoCard

/-- THE SECOND FORM's CARD OF 'bodkinlaw03.ClusterShows'. -/
def clusterShowsUptoCard : Claim7 := { stood := { row := clusterShowsUptoRow, standIns := [], harness := (true, "740247f80adb5e5a77477c389b58f867915c99bdf9b6f41c812406a5e15eb3b8"), looks := false }, kinds := [], alts := [], laidByText := true, laidKinds := [.data, .pinned], laidTests := true, laidLooks := .later }
def ClusterShowsUptoCardSaid : Prop := Claim7.holds Tryd.pinned (.plain (OpenSpec.upto clusterShowsSpec)) clusterShowsUptoCard
end Rows
end Go.Proofs.YtfhnfhgpaoddbaaDoor
