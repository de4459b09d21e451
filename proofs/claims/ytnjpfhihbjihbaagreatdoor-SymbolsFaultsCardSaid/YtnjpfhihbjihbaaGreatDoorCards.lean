/-
  DERIVED. GIVEN WITH THE SEED: THE CARDS: each row of YtnjpfhihbjihbaaGreatDoorRows.lean that lists a variable, with what it lists TIED to the program's text (the seventh form; the later family's looks); each row that meets fmt, with fmt's text TOLD by the authors' own Lean function (tested against real Go, not proved from fmt's source: count such statements apart). THE CARD IS WHAT COUNTS. Prove the row's statement (the work); the ties are given (YtnjpfhihbjihbaaGreatDoorTie.lean); close each card by the builder's one call (the guide's Derived/Test/ToyasCard.lean, 'card_holds'). Laid BY PROGRAM, IN A SANDBOX (cutbox-door.mjs). By AI agents, Wed Nov 11 2026. No macro, syntax, notation, axiom, sorry.
-/
import Derived.Test.YtnjpfhihbjihbaaGreatDoorRows
import GoSem.ClaimSeven
namespace Go.Proofs.YtnjpfhihbjihbaaGreatDoor
namespace Rows

/-- THE TIED CARD OF 'breadboardlaw20.SymbolsValues'. -/
def symbolsValuesCard : Claim7 := { stood := { row := symbolsValuesRow, standIns := [], harness := (true, "acf658c59bf72d630c7b4f9e753c8352cf21b3f935926993f892299508a12e73"), looks := true }, kinds := [], alts := [], laidByText := true, laidKinds := [.data, .data, .data], laidTests := true, laidLooks := .later }
def SymbolsValuesCardSaid : Prop := Claim7.holds Tryz.pinned (.plain (OpenSpec.ofChange symbolsValuesSpec)) symbolsValuesCard

/-- THE TIED CARD OF 'breadboardlaw20.SymbolsOrder'. -/
def symbolsOrderCard : Claim7 := { stood := { row := symbolsOrderRow, standIns := [], harness := (true, "acf658c59bf72d630c7b4f9e753c8352cf21b3f935926993f892299508a12e73"), looks := true }, kinds := [], alts := [], laidByText := true, laidKinds := [.data, .data, .data], laidTests := true, laidLooks := .later }
def SymbolsOrderCardSaid : Prop := Claim7.holds Tryz.pinned (.plain (OpenSpec.ofChange symbolsOrderSpec)) symbolsOrderCard

/-- THE TIED CARD OF 'breadboardlaw20.SymbolsKnown'. -/
def symbolsKnownCard : Claim7 := { stood := { row := symbolsKnownRow, standIns := [], harness := (true, "acf658c59bf72d630c7b4f9e753c8352cf21b3f935926993f892299508a12e73"), looks := true }, kinds := [], alts := [], laidByText := true, laidKinds := [.data, .data, .data], laidTests := true, laidLooks := .later }
def SymbolsKnownCardSaid : Prop := Claim7.holds Tryz.pinned (.plain (OpenSpec.ofChange symbolsKnownSpec)) symbolsKnownCard

/-- THE TIED CARD OF 'breadboardlaw20.SymbolsUses'. -/
def symbolsUsesCard : Claim7 := { stood := { row := symbolsUsesRow, standIns := [], harness := (true, "acf658c59bf72d630c7b4f9e753c8352cf21b3f935926993f892299508a12e73"), looks := true }, kinds := [], alts := [], laidByText := true, laidKinds := [.data, .data, .data], laidTests := true, laidLooks := .later }
def SymbolsUsesCardSaid : Prop := Claim7.holds Tryz.pinned (.plain (OpenSpec.ofChange symbolsUsesSpec)) symbolsUsesCard

/-- THE TIED CARD OF 'breadboardlaw20.SymbolsNil'. -/
def symbolsNilCard : Claim7 := { stood := { row := symbolsNilRow, standIns := [], harness := (true, "acf658c59bf72d630c7b4f9e753c8352cf21b3f935926993f892299508a12e73"), looks := true }, kinds := [], alts := [], laidByText := true, laidKinds := [.data, .data, .data], laidTests := true, laidLooks := .later }
def SymbolsNilCardSaid : Prop := Claim7.holds Tryz.pinned (.plain (OpenSpec.ofChange symbolsNilSpec)) symbolsNilCard

/-- THE TIED CARD OF 'breadboardlaw20.SymbolsFaults'. -/
def symbolsFaultsCard : Claim7 := { stood := { row := symbolsFaultsRow, standIns := [], harness := (true, "acf658c59bf72d630c7b4f9e753c8352cf21b3f935926993f892299508a12e73"), looks := true }, kinds := [], alts := [], laidByText := true, laidKinds := [.data, .data, .data], laidTests := true, laidLooks := .later }
def SymbolsFaultsCardSaid : Prop := Claim7.holds Tryz.pinned (.plain (OpenSpec.ofChange symbolsFaultsSpec)) symbolsFaultsCard

/-- THE SECOND FORM's CARD OF 'breadboardlaw20.SymbolsValues'. -/
def symbolsValuesUptoCard : Claim7 := { stood := { row := symbolsValuesUptoRow, standIns := [], harness := (true, "acf658c59bf72d630c7b4f9e753c8352cf21b3f935926993f892299508a12e73"), looks := true }, kinds := [], alts := [], laidByText := true, laidKinds := [.data, .data, .data], laidTests := true, laidLooks := .later }
def SymbolsValuesUptoCardSaid : Prop := Claim7.holds Tryz.pinned (.plain (OpenSpec.upto symbolsValuesSpec)) symbolsValuesUptoCard

/-- THE SECOND FORM's CARD OF 'breadboardlaw20.SymbolsOrder'. -/
def symbolsOrderUptoCard : Claim7 := { stood := { row := symbolsOrderUptoRow, standIns := [], harness := (true, "acf658c59bf72d630c7b4f9e753c8352cf21b3f935926993f892299508a12e73"), looks := true }, kinds := [], alts := [], laidByText := true, laidKinds := [.data, .data, .data], laidTests := true, laidLooks := .later }
def SymbolsOrderUptoCardSaid : Prop := Claim7.holds Tryz.pinned (.plain (OpenSpec.upto symbolsOrderSpec)) symbolsOrderUptoCard

/-- THE SECOND FORM's CARD OF 'breadboardlaw20.SymbolsKnown'. -/
def symbolsKnownUptoCard : Claim7 := { stood := { row := symbolsKnownUptoRow, standIns := [], harness := (true, "acf658c59bf72d630c7b4f9e753c8352cf21b3f935926993f892299508a12e73"), looks := true }, kinds := [], alts := [], laidByText := true, laidKinds := [.data, .data, .data], laidTests := true, laidLooks := .later }
def SymbolsKnownUptoCardSaid : Prop := Claim7.holds Tryz.pinned (.plain (OpenSpec.upto symbolsKnownSpec)) symbolsKnownUptoCard

/-- THE SECOND FORM's CARD OF 'breadboardlaw20.SymbolsUses'. -/
def symbolsUsesUptoCard : Claim7 := { stood := { row := symbolsUsesUptoRow, standIns := [], harness := (true, "acf658c59bf72d630c7b4f9e753c8352cf21b3f935926993f892299508a12e73"), looks := true }, kinds := [], alts := [], laidByText := true, laidKinds := [.data, .data, .data], laidTests := true, laidLooks := .later }
def SymbolsUsesUptoCardSaid : Prop := Claim7.holds Tryz.pinned (.plain (OpenSpec.upto symbolsUsesSpec)) symbolsUsesUptoCard

/-- THE SECOND FORM's CARD OF 'breadboardlaw20.SymbolsNil'. -/
def symbolsNilUptoCard : Claim7 := { stood := { row := symbolsNilUptoRow, standIns := [], harness := (true, "acf658c59bf72d630c7b4f9e753c8352cf21b3f935926993f892299508a12e73"), looks := true }, kinds := [], alts := [], laidByText := true, laidKinds := [.data, .data, .data], laidTests := true, laidLooks := .later }
def SymbolsNilUptoCardSaid : Prop := Claim7.holds Tryz.pinned (.plain (OpenSpec.upto symbolsNilSpec)) symbolsNilUptoCard

/-- THE SECOND FORM's CARD OF 'breadboardlaw20.SymbolsFaults'. -/
def symbolsFaultsUptoCard : Claim7 := { stood := { row := symbolsFaultsUptoRow, standIns := [], harness := (true, "acf658c59bf72d630c7b4f9e753c8352cf21b3f935926993f892299508a12e73"), looks := true }, kinds := [], alts := [], laidByText := true, laidKinds := [.data, .data, .data], laidTests := true, laidLooks := .later }
def SymbolsFaultsUptoCardSaid : Prop := Claim7.holds Tryz.pinned (.plain (OpenSpec.upto symbolsFaultsSpec)) symbolsFaultsUptoCard
end Rows
end Go.Proofs.YtnjpfhihbjihbaaGreatDoor
