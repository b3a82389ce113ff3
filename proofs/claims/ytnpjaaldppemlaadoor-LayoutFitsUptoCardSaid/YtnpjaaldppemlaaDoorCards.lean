/-
  DERIVED. GIVEN WITH THE SEED: THE CARDS: each row of YtnpjaaldppemlaaDoorRows.lean that lists a variable, with what it lists TIED to the program's text (the seventh form; the later family's looks); each row that meets fmt, with fmt's text TOLD by the authors' own Lean function (tested against real Go, not proved from fmt's source: count such statements apart). THE CARD IS WHAT COUNTS. Prove the row's statement (the work); the ties are given (YtnpjaaldppemlaaDoorTie.lean); close each card by the builder's one call (the guide's Derived/Test/ToyasCard.lean, 'card_holds'). Laid BY PROGRAM, IN A SANDBOX (cutbox-door.mjs). By AI agents, Wed Nov 11 2026. No macro, syntax, notation, axiom, sorry.
-/
import Derived.Test.YtnpjaaldppemlaaDoorRows
import GoSem.ClaimSeven
namespace Go.Proofs.YtnpjaaldppemlaaDoor
namespace Rows

/-- THE TIED CARD OF 'bodkinlaw20.LayoutKeeps'. -/
def layoutKeepsCard : Claim7 := { stood := { row := layoutKeepsRow, standIns := [], harness := (true, "efeecb77010052923b78f988348ba03919c6b424d65801741f1c3fed9dfb49c3"), looks := false }, kinds := [], alts := [], laidByText := true, laidKinds := [.data, .pinned], laidTests := true, laidLooks := .later }
def LayoutKeepsCardSaid : Prop := Claim7.holds Tryd.pinned (.plain (OpenSpec.ofChange layoutKeepsSpec)) layoutKeepsCard

/-- THE TIED CARD OF 'bodkinlaw20.LayoutShows'. -/
def layoutShowsCard : Claim7 := { stood := { row := layoutShowsRow, standIns := [], harness := (true, "efeecb77010052923b78f988348ba03919c6b424d65801741f1c3fed9dfb49c3"), looks := false }, kinds := [], alts := [], laidByText := true, laidKinds := [.data, .pinned], laidTests := true, laidLooks := .later }
def LayoutShowsCardSaid : Prop := Claim7.holds Tryd.pinned (.plain (OpenSpec.ofChange layoutShowsSpec)) layoutShowsCard

/-- THE TIED CARD OF 'bodkinlaw20.LayoutBlank'. -/
def layoutBlankCard : Claim7 := { stood := { row := layoutBlankRow, standIns := [], harness := (true, "efeecb77010052923b78f988348ba03919c6b424d65801741f1c3fed9dfb49c3"), looks := false }, kinds := [], alts := [], laidByText := true, laidKinds := [.data, .pinned], laidTests := true, laidLooks := .later }
def LayoutBlankCardSaid : Prop := Claim7.holds Tryd.pinned (.plain (OpenSpec.ofChange layoutBlankSpec)) layoutBlankCard

/-- THE TIED CARD OF 'bodkinlaw20.LayoutPlaces'. -/
def layoutPlacesCard : Claim7 := { stood := { row := layoutPlacesRow, standIns := [], harness := (true, "efeecb77010052923b78f988348ba03919c6b424d65801741f1c3fed9dfb49c3"), looks := false }, kinds := [], alts := [], laidByText := true, laidKinds := [.data, .pinned], laidTests := true, laidLooks := .later }
def LayoutPlacesCardSaid : Prop := Claim7.holds Tryd.pinned (.plain (OpenSpec.ofChange layoutPlacesSpec)) layoutPlacesCard

/-- THE TIED CARD OF 'bodkinlaw20.LayoutLays'. -/
def layoutLaysCard : Claim7 := { stood := { row := layoutLaysRow, standIns := [], harness := (true, "efeecb77010052923b78f988348ba03919c6b424d65801741f1c3fed9dfb49c3"), looks := false }, kinds := [], alts := [], laidByText := true, laidKinds := [.data, .pinned], laidTests := true, laidLooks := .later }
def LayoutLaysCardSaid : Prop := Claim7.holds Tryd.pinned (.plain (OpenSpec.ofChange layoutLaysSpec)) layoutLaysCard

/-- THE TIED CARD OF 'bodkinlaw20.LayoutFits'. -/
def layoutFitsCard : Claim7 := { stood := { row := layoutFitsRow, standIns := [], harness := (true, "efeecb77010052923b78f988348ba03919c6b424d65801741f1c3fed9dfb49c3"), looks := false }, kinds := [], alts := [], laidByText := true, laidKinds := [.data, .pinned], laidTests := true, laidLooks := .later }
def LayoutFitsCardSaid : Prop := Claim7.holds Tryd.pinned (.plain (OpenSpec.ofChange layoutFitsSpec)) layoutFitsCard

/-- THE TIED CARD OF 'bodkinlaw20.LayoutSame'. -/
def layoutSameCard : Claim7 := { stood := { row := layoutSameRow, standIns := [], harness := (true, "efeecb77010052923b78f988348ba03919c6b424d65801741f1c3fed9dfb49c3"), looks := false }, kinds := [], alts := [], laidByText := true, laidKinds := [.data, .pinned], laidTests := true, laidLooks := .later }
def LayoutSameCardSaid : Prop := Claim7.holds Tryd.pinned (.plain (OpenSpec.ofChange layoutSameSpec)) layoutSameCard

/-- THE TIED CARD OF 'bodkinlaw20.LayoutLines'. -/
def layoutLinesCard : Claim7 := { stood := { row := layoutLinesRow, standIns := [], harness := (true, "efeecb77010052923b78f988348ba03919c6b424d65801741f1c3fed9dfb49c3"), looks := false }, kinds := [], alts := [], laidByText := true, laidKinds := [.data, .pinned], laidTests := true, laidLooks := .later }
def LayoutLinesCardSaid : Prop := Claim7.holds Tryd.pinned (.plain (OpenSpec.ofChange layoutLinesSpec)) layoutLinesCard

/-- THE TIED CARD OF 'bodkinlaw20.LayoutRises'. -/
def layoutRisesCard : Claim7 := { stood := { row := layoutRisesRow, standIns := [], harness := (true, "efeecb77010052923b78f988348ba03919c6b424d65801741f1c3fed9dfb49c3"), looks := false }, kinds := [], alts := [], laidByText := true, laidKinds := [.data, .pinned], laidTests := true, laidLooks := .later }
def LayoutRisesCardSaid : Prop := Claim7.holds Tryd.pinned (.plain (OpenSpec.ofChange layoutRisesSpec)) layoutRisesCard

/-- THE SECOND FORM's CARD OF 'bodkinlaw20.LayoutKeeps'. -/
def layoutKeepsUptoCard : Claim7 := { stood := { row := layoutKeepsUptoRow, standIns := [], harness := (true, "efeecb77010052923b78f988348ba03919c6b424d65801741f1c3fed9dfb49c3"), looks := false }, kinds := [], alts := [], laidByText := true, laidKinds := [.data, .pinned], laidTests := true, laidLooks := .later }
def LayoutKeepsUptoCardSaid : Prop := Claim7.holds Tryd.pinned (.plain (OpenSpec.upto layoutKeepsSpec)) layoutKeepsUptoCard

/-- THE SECOND FORM's CARD OF 'bodkinlaw20.LayoutShows'. -/
def layoutShowsUptoCard : Claim7 := { stood := { row := layoutShowsUptoRow, standIns := [], harness := (true, "efeecb77010052923b78f988348ba03919c6b424d65801741f1c3fed9dfb49c3"), looks := false }, kinds := [], alts := [], laidByText := true, laidKinds := [.data, .pinned], laidTests := true, laidLooks := .later }
def LayoutShowsUptoCardSaid : Prop := Claim7.holds Tryd.pinned (.plain (OpenSpec.upto layoutShowsSpec)) layoutShowsUptoCard

/-- THE SECOND FORM's CARD OF 'bodkinlaw20.LayoutBlank'. -/
def layoutBlankUptoCard : Claim7 := { stood := { row := layoutBlankUptoRow, standIns := [], harness := (true, "efeecb77010052923b78f988348ba03919c6b424d65801741f1c3fed9dfb49c3"), looks := false }, kinds := [], alts := [], laidByText := true, laidKinds := [.data, .pinned], laidTests := true, laidLooks := .later }
def LayoutBlankUptoCardSaid : Prop := Claim7.holds Tryd.pinned (.plain (OpenSpec.upto layoutBlankSpec)) layoutBlankUptoCard

/-- THE SECOND FORM's CARD OF 'bodkinlaw20.LayoutPlaces'. -/
def layoutPlacesUptoCard : Claim7 := { stood := { row := layoutPlacesUptoRow, standIns := [], harness := (true, "efeecb77010052923b78f988348ba03919c6b424d65801741f1c3fed9dfb49c3"), looks := false }, kinds := [], alts := [], laidByText := true, laidKinds := [.data, .pinned], laidTests := true, laidLooks := .later }
def LayoutPlacesUptoCardSaid : Prop := Claim7.holds Tryd.pinned (.plain (OpenSpec.upto layoutPlacesSpec)) layoutPlacesUptoCard

/-- THE SECOND FORM's CARD OF 'bodkinlaw20.LayoutLays'. -/
def layoutLaysUptoCard : Claim7 := { stood := { row := layoutLaysUptoRow, standIns := [], harness := (true, "efeecb77010052923b78f988348ba03919c6b424d65801741f1c3fed9dfb49c3"), looks := false }, kinds := [], alts := [], laidByText := true, laidKinds := [.data, .pinned], laidTests := true, laidLooks := .later }
def LayoutLaysUptoCardSaid : Prop := Claim7.holds Tryd.pinned (.plain (OpenSpec.upto layoutLaysSpec)) layoutLaysUptoCard

/-- THE SECOND FORM's CARD OF 'bodkinlaw20.LayoutFits'. -/
def layoutFitsUptoCard : Claim7 := { stood := { row := layoutFitsUptoRow, standIns := [], harness := (true, "efeecb77010052923b78f988348ba03919c6b424d65801741f1c3fed9dfb49c3"), looks := false }, kinds := [], alts := [], laidByText := true, laidKinds := [.data, .pinned], laidTests := true, laidLooks := .later }
def LayoutFitsUptoCardSaid : Prop := Claim7.holds Tryd.pinned (.plain (OpenSpec.upto layoutFitsSpec)) layoutFitsUptoCard

/-- THE SECOND FORM's CARD OF 'bodkinlaw20.LayoutSame'. -/
def layoutSameUptoCard : Claim7 := { stood := { row := layoutSameUptoRow, standIns := [], harness := (true, "efeecb77010052923b78f988348ba03919c6b424d65801741f1c3fed9dfb49c3"), looks := false }, kinds := [], alts := [], laidByText := true, laidKinds := [.data, .pinned], laidTests := true, laidLooks := .later }
def LayoutSameUptoCardSaid : Prop := Claim7.holds Tryd.pinned (.plain (OpenSpec.upto layoutSameSpec)) layoutSameUptoCard

/-- THE SECOND FORM's CARD OF 'bodkinlaw20.LayoutLines'. -/
def layoutLinesUptoCard : Claim7 := { stood := { row := layoutLinesUptoRow, standIns := [], harness := (true, "efeecb77010052923b78f988348ba03919c6b424d65801741f1c3fed9dfb49c3"), looks := false }, kinds := [], alts := [], laidByText := true, laidKinds := [.data, .pinned], laidTests := true, laidLooks := .later }
def LayoutLinesUptoCardSaid : Prop := Claim7.holds Tryd.pinned (.plain (OpenSpec.upto layoutLinesSpec)) layoutLinesUptoCard

/-- THE SECOND FORM's CARD OF 'bodkinlaw20.LayoutRises'. -/
def layoutRisesUptoCard : Claim7 := { stood := { row := layoutRisesUptoRow, standIns := [], harness := (true, "efeecb77010052923b78f988348ba03919c6b424d65801741f1c3fed9dfb49c3"), looks := false }, kinds := [], alts := [], laidByText := true, laidKinds := [.data, .pinned], laidTests := true, laidLooks := .later }
def LayoutRisesUptoCardSaid : Prop := Claim7.holds Tryd.pinned (.plain (OpenSpec.upto layoutRisesSpec)) layoutRisesUptoCard
end Rows
end Go.Proofs.YtnpjaaldppemlaaDoor
