/-
  DERIVED. GIVEN WITH THE SEED: THE CARDS: each row of YtgdpnmikcopkmaaDoorRows.lean that lists a variable, with what it lists TIED to the program's text (the seventh form; the later family's looks); each row that meets fmt, with fmt's text TOLD by the authors' own Lean function (tested against real Go, not proved from fmt's source: count such statements apart). THE CARD IS WHAT COUNTS. Prove the row's statement (the work); the ties are given (YtgdpnmikcopkmaaDoorTie.lean); close each card by the builder's one call (the guide's Derived/Test/ToyasCard.lean, 'card_holds'). Laid BY PROGRAM, IN A SANDBOX (cutbox-door.mjs). By AI agents, Wed Nov 11 2026. No macro, syntax, notation, axiom, sorry.
-/
import Derived.Test.YtgdpnmikcopkmaaDoorRows
import GoSem.ClaimSeven
namespace Go.Proofs.YtgdpnmikcopkmaaDoor
namespace Rows

/-- THE TIED CARD OF 'bodkinlaw22.ScreenShows'. -/
def screenShowsCard : Claim7 := { stood := { row := screenShowsRow, standIns := [], harness := (true, "fbfefcc89aec40d5db70bb81987026d40aa8535eab4d14f13f43ad068021ad29"), looks := false }, kinds := [], alts := [], laidByText := true, laidKinds := [.data, .pinned], laidTests := true, laidLooks := .later }
def ScreenShowsCardSaid : Prop := Claim7.holds Tryd.pinned (.plain (OpenSpec.ofChange screenShowsSpec)) screenShowsCard

/-- THE TIED CARD OF 'bodkinlaw22.ScreenPieces'. -/
def screenPiecesCard : Claim7 := { stood := { row := screenPiecesRow, standIns := [], harness := (true, "fbfefcc89aec40d5db70bb81987026d40aa8535eab4d14f13f43ad068021ad29"), looks := false }, kinds := [], alts := [], laidByText := true, laidKinds := [.data, .pinned], laidTests := true, laidLooks := .later }
def ScreenPiecesCardSaid : Prop := Claim7.holds Tryd.pinned (.plain (OpenSpec.ofChange screenPiecesSpec)) screenPiecesCard

/-- THE TIED CARD OF 'bodkinlaw22.ScreenWipes'. -/
def screenWipesCard : Claim7 := { stood := { row := screenWipesRow, standIns := [], harness := (true, "fbfefcc89aec40d5db70bb81987026d40aa8535eab4d14f13f43ad068021ad29"), looks := false }, kinds := [], alts := [], laidByText := true, laidKinds := [.data, .pinned], laidTests := true, laidLooks := .later }
def ScreenWipesCardSaid : Prop := Claim7.holds Tryd.pinned (.plain (OpenSpec.ofChange screenWipesSpec)) screenWipesCard

/-- THE TIED CARD OF 'bodkinlaw22.ScreenFresh'. -/
def screenFreshCard : Claim7 := { stood := { row := screenFreshRow, standIns := [], harness := (true, "fbfefcc89aec40d5db70bb81987026d40aa8535eab4d14f13f43ad068021ad29"), looks := false }, kinds := [], alts := [], laidByText := true, laidKinds := [.data, .pinned], laidTests := true, laidLooks := .later }
def ScreenFreshCardSaid : Prop := Claim7.holds Tryd.pinned (.plain (OpenSpec.ofChange screenFreshSpec)) screenFreshCard

/-- THE TIED CARD OF 'bodkinlaw22.ScreenAll'. -/
def screenAllCard : Claim7 := { stood := { row := screenAllRow, standIns := [], harness := (true, "fbfefcc89aec40d5db70bb81987026d40aa8535eab4d14f13f43ad068021ad29"), looks := false }, kinds := [], alts := [], laidByText := true, laidKinds := [.data, .pinned], laidTests := true, laidLooks := .later }
def ScreenAllCardSaid : Prop := Claim7.holds Tryd.pinned (.plain (OpenSpec.ofChange screenAllSpec)) screenAllCard

/-- THE TIED CARD OF 'bodkinlaw22.ScreenGrids'. -/
def screenGridsCard : Claim7 := { stood := { row := screenGridsRow, standIns := [], harness := (true, "fbfefcc89aec40d5db70bb81987026d40aa8535eab4d14f13f43ad068021ad29"), looks := false }, kinds := [], alts := [], laidByText := true, laidKinds := [.data, .pinned], laidTests := true, laidLooks := .later }
def ScreenGridsCardSaid : Prop := Claim7.holds Tryd.pinned (.plain (OpenSpec.ofChange screenGridsSpec)) screenGridsCard

/-- THE TIED CARD OF 'bodkinlaw22.ScreenEnds'. -/
def screenEndsCard : Claim7 := { stood := { row := screenEndsRow, standIns := [], harness := (true, "fbfefcc89aec40d5db70bb81987026d40aa8535eab4d14f13f43ad068021ad29"), looks := false }, kinds := [], alts := [], laidByText := true, laidKinds := [.data, .pinned], laidTests := true, laidLooks := .later }
def ScreenEndsCardSaid : Prop := Claim7.holds Tryd.pinned (.plain (OpenSpec.ofChange screenEndsSpec)) screenEndsCard

/-- THE TIED CARD OF 'bodkinlaw22.ScreenTypes'. -/
def screenTypesCard : Claim7 := { stood := { row := screenTypesRow, standIns := [], harness := (true, "fbfefcc89aec40d5db70bb81987026d40aa8535eab4d14f13f43ad068021ad29"), looks := false }, kinds := [], alts := [], laidByText := true, laidKinds := [.data, .pinned], laidTests := true, laidLooks := .later }
def ScreenTypesCardSaid : Prop := Claim7.holds Tryd.pinned (.plain (OpenSpec.ofChange screenTypesSpec)) screenTypesCard

/-- THE TIED CARD OF 'bodkinlaw22.ScreenFeeds'. -/
def screenFeedsCard : Claim7 := { stood := { row := screenFeedsRow, standIns := [], harness := (true, "fbfefcc89aec40d5db70bb81987026d40aa8535eab4d14f13f43ad068021ad29"), looks := false }, kinds := [], alts := [], laidByText := true, laidKinds := [.data, .pinned], laidTests := true, laidLooks := .later }
def ScreenFeedsCardSaid : Prop := Claim7.holds Tryd.pinned (.plain (OpenSpec.ofChange screenFeedsSpec)) screenFeedsCard

/-- THE TIED CARD OF 'bodkinlaw22.ScreenNone'. -/
def screenNoneCard : Claim7 := { stood := { row := screenNoneRow, standIns := [], harness := (true, "fbfefcc89aec40d5db70bb81987026d40aa8535eab4d14f13f43ad068021ad29"), looks := false }, kinds := [], alts := [], laidByText := true, laidKinds := [.data, .pinned], laidTests := true, laidLooks := .later }
def ScreenNoneCardSaid : Prop := Claim7.holds Tryd.pinned (.plain (OpenSpec.ofChange screenNoneSpec)) screenNoneCard

/-- THE SECOND FORM's CARD OF 'bodkinlaw22.ScreenShows'. -/
def screenShowsUptoCard : Claim7 := { stood := { row := screenShowsUptoRow, standIns := [], harness := (true, "fbfefcc89aec40d5db70bb81987026d40aa8535eab4d14f13f43ad068021ad29"), looks := false }, kinds := [], alts := [], laidByText := true, laidKinds := [.data, .pinned], laidTests := true, laidLooks := .later }
def ScreenShowsUptoCardSaid : Prop := Claim7.holds Tryd.pinned (.plain (OpenSpec.upto screenShowsSpec)) screenShowsUptoCard

/-- THE SECOND FORM's CARD OF 'bodkinlaw22.ScreenPieces'. -/
def screenPiecesUptoCard : Claim7 := { stood := { row := screenPiecesUptoRow, standIns := [], harness := (true, "fbfefcc89aec40d5db70bb81987026d40aa8535eab4d14f13f43ad068021ad29"), looks := false }, kinds := [], alts := [], laidByText := true, laidKinds := [.data, .pinned], laidTests := true, laidLooks := .later }
def ScreenPiecesUptoCardSaid : Prop := Claim7.holds Tryd.pinned (.plain (OpenSpec.upto screenPiecesSpec)) screenPiecesUptoCard

/-- THE SECOND FORM's CARD OF 'bodkinlaw22.ScreenWipes'. -/
def screenWipesUptoCard : Claim7 := { stood := { row := screenWipesUptoRow, standIns := [], harness := (true, "fbfefcc89aec40d5db70bb81987026d40aa8535eab4d14f13f43ad068021ad29"), looks := false }, kinds := [], alts := [], laidByText := true, laidKinds := [.data, .pinned], laidTests := true, laidLooks := .later }
def ScreenWipesUptoCardSaid : Prop := Claim7.holds Tryd.pinned (.plain (OpenSpec.upto screenWipesSpec)) screenWipesUptoCard

/-- THE SECOND FORM's CARD OF 'bodkinlaw22.ScreenFresh'. -/
def screenFreshUptoCard : Claim7 := { stood := { row := screenFreshUptoRow, standIns := [], harness := (true, "fbfefcc89aec40d5db70bb81987026d40aa8535eab4d14f13f43ad068021ad29"), looks := false }, kinds := [], alts := [], laidByText := true, laidKinds := [.data, .pinned], laidTests := true, laidLooks := .later }
def ScreenFreshUptoCardSaid : Prop := Claim7.holds Tryd.pinned (.plain (OpenSpec.upto screenFreshSpec)) screenFreshUptoCard

/-- THE SECOND FORM's CARD OF 'bodkinlaw22.ScreenAll'. -/
def screenAllUptoCard : Claim7 := { stood := { row := screenAllUptoRow, standIns := [], harness := (true, "fbfefcc89aec40d5db70bb81987026d40aa8535eab4d14f13f43ad068021ad29"), looks := false }, kinds := [], alts := [], laidByText := true, laidKinds := [.data, .pinned], laidTests := true, laidLooks := .later }
def ScreenAllUptoCardSaid : Prop := Claim7.holds Tryd.pinned (.plain (OpenSpec.upto screenAllSpec)) screenAllUptoCard

/-- THE SECOND FORM's CARD OF 'bodkinlaw22.ScreenGrids'. -/
def screenGridsUptoCard : Claim7 := { stood := { row := screenGridsUptoRow, standIns := [], harness := (true, "fbfefcc89aec40d5db70bb81987026d40aa8535eab4d14f13f43ad068021ad29"), looks := false }, kinds := [], alts := [], laidByText := true, laidKinds := [.data, .pinned], laidTests := true, laidLooks := .later }
def ScreenGridsUptoCardSaid : Prop := Claim7.holds Tryd.pinned (.plain (OpenSpec.upto screenGridsSpec)) screenGridsUptoCard

/-- THE SECOND FORM's CARD OF 'bodkinlaw22.ScreenEnds'. -/
def screenEndsUptoCard : Claim7 := { stood := { row := screenEndsUptoRow, standIns := [], harness := (true, "fbfefcc89aec40d5db70bb81987026d40aa8535eab4d14f13f43ad068021ad29"), looks := false }, kinds := [], alts := [], laidByText := true, laidKinds := [.data, .pinned], laidTests := true, laidLooks := .later }
def ScreenEndsUptoCardSaid : Prop := Claim7.holds Tryd.pinned (.plain (OpenSpec.upto screenEndsSpec)) screenEndsUptoCard

/-- THE SECOND FORM's CARD OF 'bodkinlaw22.ScreenTypes'. -/
def screenTypesUptoCard : Claim7 := { stood := { row := screenTypesUptoRow, standIns := [], harness := (true, "fbfefcc89aec40d5db70bb81987026d40aa8535eab4d14f13f43ad068021ad29"), looks := false }, kinds := [], alts := [], laidByText := true, laidKinds := [.data, .pinned], laidTests := true, laidLooks := .later }
def ScreenTypesUptoCardSaid : Prop := Claim7.holds Tryd.pinned (.plain (OpenSpec.upto screenTypesSpec)) screenTypesUptoCard

/-- THE SECOND FORM's CARD OF 'bodkinlaw22.ScreenFeeds'. -/
def screenFeedsUptoCard : Claim7 := { stood := { row := screenFeedsUptoRow, standIns := [], harness := (true, "fbfefcc89aec40d5db70bb81987026d40aa8535eab4d14f13f43ad068021ad29"), looks := false }, kinds := [], alts := [], laidByText := true, laidKinds := [.data, .pinned], laidTests := true, laidLooks := .later }
def ScreenFeedsUptoCardSaid : Prop := Claim7.holds Tryd.pinned (.plain (OpenSpec.upto screenFeedsSpec)) screenFeedsUptoCard

/-- THE SECOND FORM's CARD OF 'bodkinlaw22.ScreenNone'. -/
def screenNoneUptoCard : Claim7 := { stood := { row := screenNoneUptoRow, standIns := [], harness := (true, "fbfefcc89aec40d5db70bb81987026d40aa8535eab4d14f13f43ad068021ad29"), looks := false }, kinds := [], alts := [], laidByText := true, laidKinds := [.data, .pinned], laidTests := true, laidLooks := .later }
def ScreenNoneUptoCardSaid : Prop := Claim7.holds Tryd.pinned (.plain (OpenSpec.upto screenNoneSpec)) screenNoneUptoCard
end Rows
end Go.Proofs.YtgdpnmikcopkmaaDoor
