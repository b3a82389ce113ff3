/-
  DERIVED. GIVEN WITH THE SEED: THE CARDS: each row of YtkficbgnjpekaaaDoorRows.lean that lists a variable, with what it lists TIED to the program's text (the seventh form; the later family's looks); each row that meets fmt, with fmt's text TOLD by the authors' own Lean function (tested against real Go, not proved from fmt's source: count such statements apart). THE CARD IS WHAT COUNTS. Prove the row's statement (the work); the ties are given (YtkficbgnjpekaaaDoorTie.lean); close each card by the builder's one call (the guide's Derived/Test/ToyasCard.lean, 'card_holds'). Laid BY PROGRAM, IN A SANDBOX (cutbox-door.mjs). By AI agents, Wed Nov 11 2026. No macro, syntax, notation, axiom, sorry.
-/
import Derived.Test.YtkficbgnjpekaaaDoorRows
import GoSem.ClaimSeven
namespace Go.Proofs.YtkficbgnjpekaaaDoor
namespace Rows

/-- THE TIED CARD OF 'bodkinlaw05.WordChars'. -/
def wordCharsCard : Claim7 := { stood := { row := wordCharsRow, standIns := [], harness := (true, "bb0c9e3b79d5e60c870f8582d4e3dcc95881901fbf03ae5f83efdc06678a9516"), looks := false }, kinds := [], alts := [], laidByText := true, laidKinds := [.data, .pinned], laidTests := true, laidLooks := .later }
def WordCharsCardSaid : Prop := Claim7.holds Tryd.pinned (.plain (OpenSpec.ofChange wordCharsSpec)) wordCharsCard

/-- THE TIED CARD OF 'bodkinlaw05.WordSpans'. -/
def wordSpansCard : Claim7 := { stood := { row := wordSpansRow, standIns := [], harness := (true, "bb0c9e3b79d5e60c870f8582d4e3dcc95881901fbf03ae5f83efdc06678a9516"), looks := false }, kinds := [], alts := [], laidByText := true, laidKinds := [.data, .pinned], laidTests := true, laidLooks := .later }
def WordSpansCardSaid : Prop := Claim7.holds Tryd.pinned (.plain (OpenSpec.ofChange wordSpansSpec)) wordSpansCard

/-- THE TIED CARD OF 'bodkinlaw05.WordMoves'. -/
def wordMovesCard : Claim7 := { stood := { row := wordMovesRow, standIns := [], harness := (true, "bb0c9e3b79d5e60c870f8582d4e3dcc95881901fbf03ae5f83efdc06678a9516"), looks := false }, kinds := [], alts := [], laidByText := true, laidKinds := [.data, .pinned], laidTests := true, laidLooks := .later }
def WordMovesCardSaid : Prop := Claim7.holds Tryd.pinned (.plain (OpenSpec.ofChange wordMovesSpec)) wordMovesCard

/-- THE TIED CARD OF 'bodkinlaw05.WordTiles'. -/
def wordTilesCard : Claim7 := { stood := { row := wordTilesRow, standIns := [], harness := (true, "bb0c9e3b79d5e60c870f8582d4e3dcc95881901fbf03ae5f83efdc06678a9516"), looks := false }, kinds := [], alts := [], laidByText := true, laidKinds := [.data, .pinned], laidTests := true, laidLooks := .later }
def WordTilesCardSaid : Prop := Claim7.holds Tryd.pinned (.plain (OpenSpec.ofChange wordTilesSpec)) wordTilesCard

/-- THE TIED CARD OF 'bodkinlaw05.WordSteps'. -/
def wordStepsCard : Claim7 := { stood := { row := wordStepsRow, standIns := [], harness := (true, "bb0c9e3b79d5e60c870f8582d4e3dcc95881901fbf03ae5f83efdc06678a9516"), looks := false }, kinds := [], alts := [], laidByText := true, laidKinds := [.data, .pinned], laidTests := true, laidLooks := .later }
def WordStepsCardSaid : Prop := Claim7.holds Tryd.pinned (.plain (OpenSpec.ofChange wordStepsSpec)) wordStepsCard

/-- THE TIED CARD OF 'bodkinlaw05.WordForms'. -/
def wordFormsCard : Claim7 := { stood := { row := wordFormsRow, standIns := [], harness := (true, "bb0c9e3b79d5e60c870f8582d4e3dcc95881901fbf03ae5f83efdc06678a9516"), looks := false }, kinds := [], alts := [], laidByText := true, laidKinds := [.data, .pinned], laidTests := true, laidLooks := .later }
def WordFormsCardSaid : Prop := Claim7.holds Tryd.pinned (.plain (OpenSpec.ofChange wordFormsSpec)) wordFormsCard

/-- THE TIED CARD OF 'bodkinlaw05.WordCases'. -/
def wordCasesCard : Claim7 := { stood := { row := wordCasesRow, standIns := [], harness := (true, "bb0c9e3b79d5e60c870f8582d4e3dcc95881901fbf03ae5f83efdc06678a9516"), looks := false }, kinds := [], alts := [], laidByText := true, laidKinds := [.data, .pinned], laidTests := true, laidLooks := .later }
def WordCasesCardSaid : Prop := Claim7.holds Tryd.pinned (.plain (OpenSpec.ofChange wordCasesSpec)) wordCasesCard

/-- THE TIED CARD OF 'bodkinlaw05.WordCased'. -/
def wordCasedCard : Claim7 := { stood := { row := wordCasedRow, standIns := [], harness := (true, "bb0c9e3b79d5e60c870f8582d4e3dcc95881901fbf03ae5f83efdc06678a9516"), looks := false }, kinds := [], alts := [], laidByText := true, laidKinds := [.data, .pinned], laidTests := true, laidLooks := .later }
def WordCasedCardSaid : Prop := Claim7.holds Tryd.pinned (.plain (OpenSpec.ofChange wordCasedSpec)) wordCasedCard

/-- THE TIED CARD OF 'bodkinlaw05.WordJoins'. -/
def wordJoinsCard : Claim7 := { stood := { row := wordJoinsRow, standIns := [], harness := (true, "bb0c9e3b79d5e60c870f8582d4e3dcc95881901fbf03ae5f83efdc06678a9516"), looks := false }, kinds := [], alts := [], laidByText := true, laidKinds := [.data, .pinned], laidTests := true, laidLooks := .later }
def WordJoinsCardSaid : Prop := Claim7.holds Tryd.pinned (.plain (OpenSpec.ofChange wordJoinsSpec)) wordJoinsCard

/-- THE SECOND FORM's CARD OF 'bodkinlaw05.WordChars'. -/
def wordCharsUptoCard : Claim7 := { stood := { row := wordCharsUptoRow, standIns := [], harness := (true, "bb0c9e3b79d5e60c870f8582d4e3dcc95881901fbf03ae5f83efdc06678a9516"), looks := false }, kinds := [], alts := [], laidByText := true, laidKinds := [.data, .pinned], laidTests := true, laidLooks := .later }
def WordCharsUptoCardSaid : Prop := Claim7.holds Tryd.pinned (.plain (OpenSpec.upto wordCharsSpec)) wordCharsUptoCard

/-- THE SECOND FORM's CARD OF 'bodkinlaw05.WordSpans'. -/
def wordSpansUptoCard : Claim7 := { stood := { row := wordSpansUptoRow, standIns := [], harness := (true, "bb0c9e3b79d5e60c870f8582d4e3dcc95881901fbf03ae5f83efdc06678a9516"), looks := false }, kinds := [], alts := [], laidByText := true, laidKinds := [.data, .pinned], laidTests := true, laidLooks := .later }
def WordSpansUptoCardSaid : Prop := Claim7.holds Tryd.pinned (.plain (OpenSpec.upto wordSpansSpec)) wordSpansUptoCard

/-- THE SECOND FORM's CARD OF 'bodkinlaw05.WordMoves'. -/
def wordMovesUptoCard : Claim7 := { stood := { row := wordMovesUptoRow, standIns := [], harness := (true, "bb0c9e3b79d5e60c870f8582d4e3dcc95881901fbf03ae5f83efdc06678a9516"), looks := false }, kinds := [], alts := [], laidByText := true, laidKinds := [.data, .pinned], laidTests := true, laidLooks := .later }
def WordMovesUptoCardSaid : Prop := Claim7.holds Tryd.pinned (.plain (OpenSpec.upto wordMovesSpec)) wordMovesUptoCard

/-- THE SECOND FORM's CARD OF 'bodkinlaw05.WordTiles'. -/
def wordTilesUptoCard : Claim7 := { stood := { row := wordTilesUptoRow, standIns := [], harness := (true, "bb0c9e3b79d5e60c870f8582d4e3dcc95881901fbf03ae5f83efdc06678a9516"), looks := false }, kinds := [], alts := [], laidByText := true, laidKinds := [.data, .pinned], laidTests := true, laidLooks := .later }
def WordTilesUptoCardSaid : Prop := Claim7.holds Tryd.pinned (.plain (OpenSpec.upto wordTilesSpec)) wordTilesUptoCard

/-- THE SECOND FORM's CARD OF 'bodkinlaw05.WordSteps'. -/
def wordStepsUptoCard : Claim7 := { stood := { row := wordStepsUptoRow, standIns := [], harness := (true, "bb0c9e3b79d5e60c870f8582d4e3dcc95881901fbf03ae5f83efdc06678a9516"), looks := false }, kinds := [], alts := [], laidByText := true, laidKinds := [.data, .pinned], laidTests := true, laidLooks := .later }
def WordStepsUptoCardSaid : Prop := Claim7.holds Tryd.pinned (.plain (OpenSpec.upto wordStepsSpec)) wordStepsUptoCard

/-- THE SECOND FORM's CARD OF 'bodkinlaw05.WordForms'. -/
def wordFormsUptoCard : Claim7 := { stood := { row := wordFormsUptoRow, standIns := [], harness := (true, "bb0c9e3b79d5e60c870f8582d4e3dcc95881901fbf03ae5f83efdc06678a9516"), looks := false }, kinds := [], alts := [], laidByText := true, laidKinds := [.data, .pinned], laidTests := true, laidLooks := .later }
def WordFormsUptoCardSaid : Prop := Claim7.holds Tryd.pinned (.plain (OpenSpec.upto wordFormsSpec)) wordFormsUptoCard

/-- THE SECOND FORM's CARD OF 'bodkinlaw05.WordCases'. -/
def wordCasesUptoCard : Claim7 := { stood := { row := wordCasesUptoRow, standIns := [], harness := (true, "bb0c9e3b79d5e60c870f8582d4e3dcc95881901fbf03ae5f83efdc06678a9516"), looks := false }, kinds := [], alts := [], laidByText := true, laidKinds := [.data, .pinned], laidTests := true, laidLooks := .later }
def WordCasesUptoCardSaid : Prop := Claim7.holds Tryd.pinned (.plain (OpenSpec.upto wordCasesSpec)) wordCasesUptoCard

/-- THE SECOND FORM's CARD OF 'bodkinlaw05.WordCased'. -/
def wordCasedUptoCard : Claim7 := { stood := { row := wordCasedUptoRow, standIns := [], harness := (true, "bb0c9e3b79d5e60c870f8582d4e3dcc95881901fbf03ae5f83efdc06678a9516"), looks := false }, kinds := [], alts := [], laidByText := true, laidKinds := [.data, .pinned], laidTests := true, laidLooks := .later }
def WordCasedUptoCardSaid : Prop := Claim7.holds Tryd.pinned (.plain (OpenSpec.upto wordCasedSpec)) wordCasedUptoCard

/-- THE SECOND FORM's CARD OF 'bodkinlaw05.WordJoins'. -/
def wordJoinsUptoCard : Claim7 := { stood := { row := wordJoinsUptoRow, standIns := [], harness := (true, "bb0c9e3b79d5e60c870f8582d4e3dcc95881901fbf03ae5f83efdc06678a9516"), looks := false }, kinds := [], alts := [], laidByText := true, laidKinds := [.data, .pinned], laidTests := true, laidLooks := .later }
def WordJoinsUptoCardSaid : Prop := Claim7.holds Tryd.pinned (.plain (OpenSpec.upto wordJoinsSpec)) wordJoinsUptoCard
end Rows
end Go.Proofs.YtkficbgnjpekaaaDoor
