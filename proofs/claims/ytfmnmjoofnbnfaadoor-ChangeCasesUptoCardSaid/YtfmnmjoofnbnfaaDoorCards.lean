/-
  DERIVED. GIVEN WITH THE SEED: THE CARDS: each row of YtfmnmjoofnbnfaaDoorRows.lean that lists a variable, with what it lists TIED to the program's text (the seventh form; the later family's looks); each row that meets fmt, with fmt's text TOLD by the authors' own Lean function (tested against real Go, not proved from fmt's source: count such statements apart). THE CARD IS WHAT COUNTS. Prove the row's statement (the work); the ties are given (YtfmnmjoofnbnfaaDoorTie.lean); close each card by the builder's one call (the guide's Derived/Test/ToyasCard.lean, 'card_holds'). Laid BY PROGRAM, IN A SANDBOX (cutbox-door.mjs). By AI agents, Wed Nov 11 2026. No macro, syntax, notation, axiom, sorry.
-/
import Derived.Test.YtfmnmjoofnbnfaaDoorRows
import GoSem.ClaimSeven
namespace Go.Proofs.YtfmnmjoofnbnfaaDoor
namespace Rows

/-- THE TIED CARD OF 'bodkinlaw17.ChangeCounts'. -/
def changeCountsCard : Claim7 := { stood := { row := changeCountsRow, standIns := [], harness := (true, "3cb5902b1142b80344e1277477cc5323db77afa28ee6636923204278628f72df"), looks := false }, kinds := [], alts := [], laidByText := true, laidKinds := [.data, .pinned], laidTests := true, laidLooks := .later }
def ChangeCountsCardSaid : Prop := Claim7.holds Tryd.pinned (.plain (OpenSpec.ofChange changeCountsSpec)) changeCountsCard

/-- THE TIED CARD OF 'bodkinlaw17.ChangeCases'. -/
def changeCasesCard : Claim7 := { stood := { row := changeCasesRow, standIns := [], harness := (true, "3cb5902b1142b80344e1277477cc5323db77afa28ee6636923204278628f72df"), looks := false }, kinds := [], alts := [], laidByText := true, laidKinds := [.data, .pinned], laidTests := true, laidLooks := .later }
def ChangeCasesCardSaid : Prop := Claim7.holds Tryd.pinned (.plain (OpenSpec.ofChange changeCasesSpec)) changeCasesCard

/-- THE TIED CARD OF 'bodkinlaw17.ChangeApplies'. -/
def changeAppliesCard : Claim7 := { stood := { row := changeAppliesRow, standIns := [], harness := (true, "3cb5902b1142b80344e1277477cc5323db77afa28ee6636923204278628f72df"), looks := false }, kinds := [], alts := [], laidByText := true, laidKinds := [.data, .pinned], laidTests := true, laidLooks := .later }
def ChangeAppliesCardSaid : Prop := Claim7.holds Tryd.pinned (.plain (OpenSpec.ofChange changeAppliesSpec)) changeAppliesCard

/-- THE TIED CARD OF 'bodkinlaw17.ChangeStands'. -/
def changeStandsCard : Claim7 := { stood := { row := changeStandsRow, standIns := [], harness := (true, "3cb5902b1142b80344e1277477cc5323db77afa28ee6636923204278628f72df"), looks := false }, kinds := [], alts := [], laidByText := true, laidKinds := [.data, .pinned], laidTests := true, laidLooks := .later }
def ChangeStandsCardSaid : Prop := Claim7.holds Tryd.pinned (.plain (OpenSpec.ofChange changeStandsSpec)) changeStandsCard

/-- THE TIED CARD OF 'bodkinlaw17.ChangeTransposes'. -/
def changeTransposesCard : Claim7 := { stood := { row := changeTransposesRow, standIns := [], harness := (true, "3cb5902b1142b80344e1277477cc5323db77afa28ee6636923204278628f72df"), looks := false }, kinds := [], alts := [], laidByText := true, laidKinds := [.data, .pinned], laidTests := true, laidLooks := .later }
def ChangeTransposesCardSaid : Prop := Claim7.holds Tryd.pinned (.plain (OpenSpec.ofChange changeTransposesSpec)) changeTransposesCard

/-- THE SECOND FORM's CARD OF 'bodkinlaw17.ChangeCounts'. -/
def changeCountsUptoCard : Claim7 := { stood := { row := changeCountsUptoRow, standIns := [], harness := (true, "3cb5902b1142b80344e1277477cc5323db77afa28ee6636923204278628f72df"), looks := false }, kinds := [], alts := [], laidByText := true, laidKinds := [.data, .pinned], laidTests := true, laidLooks := .later }
def ChangeCountsUptoCardSaid : Prop := Claim7.holds Tryd.pinned (.plain (OpenSpec.upto changeCountsSpec)) changeCountsUptoCard

/-- THE SECOND FORM's CARD OF 'bodkinlaw17.ChangeCases'. -/
def changeCasesUptoCard : Claim7 := { stood := { row := changeCasesUptoRow, standIns := [], harness := (true, "3cb5902b1142b80344e1277477cc5323db77afa28ee6636923204278628f72df"), looks := false }, kinds := [], alts := [], laidByText := true, laidKinds := [.data, .pinned], laidTests := true, laidLooks := .later }
def ChangeCasesUptoCardSaid : Prop := Claim7.holds Tryd.pinned (.plain (OpenSpec.upto changeCasesSpec)) changeCasesUptoCard

/-- THE SECOND FORM's CARD OF 'bodkinlaw17.ChangeApplies'. -/
def changeAppliesUptoCard : Claim7 := { stood := { row := changeAppliesUptoRow, standIns := [], harness := (true, "3cb5902b1142b80344e1277477cc5323db77afa28ee6636923204278628f72df"), looks := false }, kinds := [], alts := [], laidByText := true, laidKinds := [.data, .pinned], laidTests := true, laidLooks := .later }
def ChangeAppliesUptoCardSaid : Prop := Claim7.holds Tryd.pinned (.plain (OpenSpec.upto changeAppliesSpec)) changeAppliesUptoCard

/-- THE SECOND FORM's CARD OF 'bodkinlaw17.ChangeStands'. -/
def changeStandsUptoCard : Claim7 := { stood := { row := changeStandsUptoRow, standIns := [], harness := (true, "3cb5902b1142b80344e1277477cc5323db77afa28ee6636923204278628f72df"), looks := false }, kinds := [], alts := [], laidByText := true, laidKinds := [.data, .pinned], laidTests := true, laidLooks := .later }
def ChangeStandsUptoCardSaid : Prop := Claim7.holds Tryd.pinned (.plain (OpenSpec.upto changeStandsSpec)) changeStandsUptoCard

/-- THE SECOND FORM's CARD OF 'bodkinlaw17.ChangeTransposes'. -/
def changeTransposesUptoCard : Claim7 := { stood := { row := changeTransposesUptoRow, standIns := [], harness := (true, "3cb5902b1142b80344e1277477cc5323db77afa28ee6636923204278628f72df"), looks := false }, kinds := [], alts := [], laidByText := true, laidKinds := [.data, .pinned], laidTests := true, laidLooks := .later }
def ChangeTransposesUptoCardSaid : Prop := Claim7.holds Tryd.pinned (.plain (OpenSpec.upto changeTransposesSpec)) changeTransposesUptoCard
end Rows
end Go.Proofs.YtfmnmjoofnbnfaaDoor
