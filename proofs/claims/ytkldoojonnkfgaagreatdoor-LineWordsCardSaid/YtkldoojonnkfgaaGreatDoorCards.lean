/-
  DERIVED. GIVEN WITH THE SEED: THE CARDS: each row of YtkldoojonnkfgaaGreatDoorRows.lean that lists a variable, with what it lists TIED to the program's text (the seventh form; the later family's looks); each row that meets fmt, with fmt's text TOLD by the authors' own Lean function (tested against real Go, not proved from fmt's source: count such statements apart). THE CARD IS WHAT COUNTS. Prove the row's statement (the work); the ties are given (YtkldoojonnkfgaaGreatDoorTie.lean); close each card by the builder's one call (the guide's Derived/Test/ToyasCard.lean, 'card_holds'). Laid BY PROGRAM, IN A SANDBOX (cutbox-door.mjs). By AI agents, Wed Nov 11 2026. No macro, syntax, notation, axiom, sorry.
-/
import Derived.Test.YtkldoojonnkfgaaGreatDoorRows
import GoSem.ClaimSeven
namespace Go.Proofs.YtkldoojonnkfgaaGreatDoor
namespace Rows

/-- THE TIED CARD OF 'breadboardlaw18.ArgsShown'. -/
def argsShownCard : Claim7 := { stood := { row := argsShownRow, standIns := [], harness := (true, "182c7ceccd65f73b79c8c235813ff75e64b1d9e628c163dd9f7cd2caa334895b"), looks := true }, kinds := [], alts := [], laidByText := true, laidKinds := [.data, .data, .data, .data, .listed, .data, .pinned], laidTests := true, laidLooks := .later }
def ArgsShownCardSaid : Prop := Claim7.holds Tryz.pinned (.plain (OpenSpec.ofChange argsShownSpec)) argsShownCard

/-- THE TIED CARD OF 'breadboardlaw18.ArgsSplits'. -/
def argsSplitsCard : Claim7 := { stood := { row := argsSplitsRow, standIns := [], harness := (true, "182c7ceccd65f73b79c8c235813ff75e64b1d9e628c163dd9f7cd2caa334895b"), looks := true }, kinds := [], alts := [], laidByText := true, laidKinds := [.data, .data, .data, .data, .listed, .data, .pinned], laidTests := true, laidLooks := .later }
def ArgsSplitsCardSaid : Prop := Claim7.holds Tryz.pinned (.plain (OpenSpec.ofChange argsSplitsSpec)) argsSplitsCard

/-- THE TIED CARD OF 'breadboardlaw19.LineTexts'. -/
def lineTextsCard : Claim7 := { stood := { row := lineTextsRow, standIns := [], harness := (true, "182c7ceccd65f73b79c8c235813ff75e64b1d9e628c163dd9f7cd2caa334895b"), looks := true }, kinds := [], alts := [], laidByText := true, laidKinds := [.data, .data, .data, .data, .listed, .data, .pinned], laidTests := true, laidLooks := .later }
def LineTextsCardSaid : Prop := Claim7.holds Tryz.pinned (.plain (OpenSpec.ofChange lineTextsSpec)) lineTextsCard

/-- THE TIED CARD OF 'breadboardlaw19.LineWords'. -/
def lineWordsCard : Claim7 := { stood := { row := lineWordsRow, standIns := [], harness := (true, "182c7ceccd65f73b79c8c235813ff75e64b1d9e628c163dd9f7cd2caa334895b"), looks := true }, kinds := [], alts := [], laidByText := true, laidKinds := [.data, .data, .data, .data, .listed, .data, .pinned], laidTests := true, laidLooks := .later }
def LineWordsCardSaid : Prop := Claim7.holds Tryz.pinned (.plain (OpenSpec.ofChange lineWordsSpec)) lineWordsCard

/-- THE TIED CARD OF 'breadboardlaw19.LineNames'. -/
def lineNamesCard : Claim7 := { stood := { row := lineNamesRow, standIns := [], harness := (true, "182c7ceccd65f73b79c8c235813ff75e64b1d9e628c163dd9f7cd2caa334895b"), looks := true }, kinds := [], alts := [], laidByText := true, laidKinds := [.data, .data, .data, .data, .listed, .data, .pinned], laidTests := true, laidLooks := .later }
def LineNamesCardSaid : Prop := Claim7.holds Tryz.pinned (.plain (OpenSpec.ofChange lineNamesSpec)) lineNamesCard

/-- THE TIED CARD OF 'breadboardlaw19.LineShown'. -/
def lineShownCard : Claim7 := { stood := { row := lineShownRow, standIns := [], harness := (true, "182c7ceccd65f73b79c8c235813ff75e64b1d9e628c163dd9f7cd2caa334895b"), looks := true }, kinds := [], alts := [], laidByText := true, laidKinds := [.data, .data, .data, .data, .listed, .data, .pinned, .pinned], laidTests := true, laidLooks := .later }
def LineShownCardSaid : Prop := Claim7.holds Tryz.pinned (.plain (OpenSpec.ofChange lineShownSpec)) lineShownCard

/-- THE SECOND FORM's CARD OF 'breadboardlaw18.ArgsShown'. -/
def argsShownUptoCard : Claim7 := { stood := { row := argsShownUptoRow, standIns := [], harness := (true, "182c7ceccd65f73b79c8c235813ff75e64b1d9e628c163dd9f7cd2caa334895b"), looks := true }, kinds := [], alts := [], laidByText := true, laidKinds := [.data, .data, .data, .data, .listed, .data, .pinned], laidTests := true, laidLooks := .later }
def ArgsShownUptoCardSaid : Prop := Claim7.holds Tryz.pinned (.plain (OpenSpec.upto argsShownSpec)) argsShownUptoCard

/-- THE SECOND FORM's CARD OF 'breadboardlaw18.ArgsSplits'. -/
def argsSplitsUptoCard : Claim7 := { stood := { row := argsSplitsUptoRow, standIns := [], harness := (true, "182c7ceccd65f73b79c8c235813ff75e64b1d9e628c163dd9f7cd2caa334895b"), looks := true }, kinds := [], alts := [], laidByText := true, laidKinds := [.data, .data, .data, .data, .listed, .data, .pinned], laidTests := true, laidLooks := .later }
def ArgsSplitsUptoCardSaid : Prop := Claim7.holds Tryz.pinned (.plain (OpenSpec.upto argsSplitsSpec)) argsSplitsUptoCard

/-- THE SECOND FORM's CARD OF 'breadboardlaw19.LineTexts'. -/
def lineTextsUptoCard : Claim7 := { stood := { row := lineTextsUptoRow, standIns := [], harness := (true, "182c7ceccd65f73b79c8c235813ff75e64b1d9e628c163dd9f7cd2caa334895b"), looks := true }, kinds := [], alts := [], laidByText := true, laidKinds := [.data, .data, .data, .data, .listed, .data, .pinned], laidTests := true, laidLooks := .later }
def LineTextsUptoCardSaid : Prop := Claim7.holds Tryz.pinned (.plain (OpenSpec.upto lineTextsSpec)) lineTextsUptoCard

/-- THE SECOND FORM's CARD OF 'breadboardlaw19.LineWords'. -/
def lineWordsUptoCard : Claim7 := { stood := { row := lineWordsUptoRow, standIns := [], harness := (true, "182c7ceccd65f73b79c8c235813ff75e64b1d9e628c163dd9f7cd2caa334895b"), looks := true }, kinds := [], alts := [], laidByText := true, laidKinds := [.data, .data, .data, .data, .listed, .data, .pinned], laidTests := true, laidLooks := .later }
def LineWordsUptoCardSaid : Prop := Claim7.holds Tryz.pinned (.plain (OpenSpec.upto lineWordsSpec)) lineWordsUptoCard

/-- THE SECOND FORM's CARD OF 'breadboardlaw19.LineNames'. -/
def lineNamesUptoCard : Claim7 := { stood := { row := lineNamesUptoRow, standIns := [], harness := (true, "182c7ceccd65f73b79c8c235813ff75e64b1d9e628c163dd9f7cd2caa334895b"), looks := true }, kinds := [], alts := [], laidByText := true, laidKinds := [.data, .data, .data, .data, .listed, .data, .pinned], laidTests := true, laidLooks := .later }
def LineNamesUptoCardSaid : Prop := Claim7.holds Tryz.pinned (.plain (OpenSpec.upto lineNamesSpec)) lineNamesUptoCard

/-- THE SECOND FORM's CARD OF 'breadboardlaw19.LineShown'. -/
def lineShownUptoCard : Claim7 := { stood := { row := lineShownUptoRow, standIns := [], harness := (true, "182c7ceccd65f73b79c8c235813ff75e64b1d9e628c163dd9f7cd2caa334895b"), looks := true }, kinds := [], alts := [], laidByText := true, laidKinds := [.data, .data, .data, .data, .listed, .data, .pinned, .pinned], laidTests := true, laidLooks := .later }
def LineShownUptoCardSaid : Prop := Claim7.holds Tryz.pinned (.plain (OpenSpec.upto lineShownSpec)) lineShownUptoCard
end Rows
end Go.Proofs.YtkldoojonnkfgaaGreatDoor
