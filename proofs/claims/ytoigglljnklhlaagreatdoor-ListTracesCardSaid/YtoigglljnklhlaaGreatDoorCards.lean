/-
  DERIVED. GIVEN WITH THE SEED: THE CARDS: each row of YtoigglljnklhlaaGreatDoorRows.lean that lists a variable, with what it lists TIED to the program's text (the seventh form; the later family's looks); each row that meets fmt, with fmt's text TOLD by the authors' own Lean function (tested against real Go, not proved from fmt's source: count such statements apart). THE CARD IS WHAT COUNTS. Prove the row's statement (the work); the ties are given (YtoigglljnklhlaaGreatDoorTie.lean); close each card by the builder's one call (the guide's Derived/Test/ToyasCard.lean, 'card_holds'). Laid BY PROGRAM, IN A SANDBOX (cutbox-door.mjs). By AI agents, Wed Nov 11 2026. No macro, syntax, notation, axiom, sorry.
-/
import Derived.Test.YtoigglljnklhlaaGreatDoorRows
import GoSem.ClaimSeven
namespace Go.Proofs.YtoigglljnklhlaaGreatDoor
namespace Rows

/-- THE TIED CARD OF 'breadboardlaw24.ListRuns'. -/
def listRunsCard : Claim7 := { stood := { row := listRunsRow, standIns := [], harness := (true, "adde9d394ac3f901ad3815d0c6fd45b8421889c7395a0d3d742e0f0aaaf82799"), looks := true }, kinds := [], alts := [], laidByText := true, laidKinds := [.data, .data, .data, .data, .listed, .data, .pinned], laidTests := true, laidLooks := .later }
def ListRunsCardSaid : Prop := Claim7.holds Tryz.pinned (.plain (OpenSpec.ofChange listRunsSpec)) listRunsCard

/-- THE TIED CARD OF 'breadboardlaw24.ListRatios'. -/
def listRatiosCard : Claim7 := { stood := { row := listRatiosRow, standIns := [], harness := (true, "adde9d394ac3f901ad3815d0c6fd45b8421889c7395a0d3d742e0f0aaaf82799"), looks := true }, kinds := [], alts := [], laidByText := true, laidKinds := [.data, .data, .data, .data, .listed, .data, .pinned], laidTests := true, laidLooks := .later }
def ListRatiosCardSaid : Prop := Claim7.holds Tryz.pinned (.plain (OpenSpec.ofChange listRatiosSpec)) listRatiosCard

/-- THE TIED CARD OF 'breadboardlaw24.ListListings'. -/
def listListingsCard : Claim7 := { stood := { row := listListingsRow, standIns := [], harness := (true, "adde9d394ac3f901ad3815d0c6fd45b8421889c7395a0d3d742e0f0aaaf82799"), looks := true }, kinds := [], alts := [], laidByText := true, laidKinds := [.data, .data, .data, .data, .listed, .data, .pinned], laidTests := true, laidLooks := .later }
def ListListingsCardSaid : Prop := Claim7.holds Tryz.pinned (.plain (OpenSpec.ofChange listListingsSpec)) listListingsCard

/-- THE TIED CARD OF 'breadboardlaw24.ListTraces'. -/
def listTracesCard : Claim7 := { stood := { row := listTracesRow, standIns := [], harness := (true, "adde9d394ac3f901ad3815d0c6fd45b8421889c7395a0d3d742e0f0aaaf82799"), looks := true }, kinds := [], alts := [], laidByText := true, laidKinds := [.data, .data, .data, .data, .listed, .data, .pinned], laidTests := true, laidLooks := .later }
def ListTracesCardSaid : Prop := Claim7.holds Tryz.pinned (.plain (OpenSpec.ofChange listTracesSpec)) listTracesCard

/-- THE TIED CARD OF 'breadboardlaw24.ListNil'. -/
def listNilCard : Claim7 := { stood := { row := listNilRow, standIns := [], harness := (true, "adde9d394ac3f901ad3815d0c6fd45b8421889c7395a0d3d742e0f0aaaf82799"), looks := true }, kinds := [], alts := [], laidByText := true, laidKinds := [.data, .data, .data, .data, .listed, .data, .pinned], laidTests := true, laidLooks := .later }
def ListNilCardSaid : Prop := Claim7.holds Tryz.pinned (.plain (OpenSpec.ofChange listNilSpec)) listNilCard

/-- THE SECOND FORM's CARD OF 'breadboardlaw24.ListRuns'. -/
def listRunsUptoCard : Claim7 := { stood := { row := listRunsUptoRow, standIns := [], harness := (true, "adde9d394ac3f901ad3815d0c6fd45b8421889c7395a0d3d742e0f0aaaf82799"), looks := true }, kinds := [], alts := [], laidByText := true, laidKinds := [.data, .data, .data, .data, .listed, .data, .pinned], laidTests := true, laidLooks := .later }
def ListRunsUptoCardSaid : Prop := Claim7.holds Tryz.pinned (.plain (OpenSpec.upto listRunsSpec)) listRunsUptoCard

/-- THE SECOND FORM's CARD OF 'breadboardlaw24.ListRatios'. -/
def listRatiosUptoCard : Claim7 := { stood := { row := listRatiosUptoRow, standIns := [], harness := (true, "adde9d394ac3f901ad3815d0c6fd45b8421889c7395a0d3d742e0f0aaaf82799"), looks := true }, kinds := [], alts := [], laidByText := true, laidKinds := [.data, .data, .data, .data, .listed, .data, .pinned], laidTests := true, laidLooks := .later }
def ListRatiosUptoCardSaid : Prop := Claim7.holds Tryz.pinned (.plain (OpenSpec.upto listRatiosSpec)) listRatiosUptoCard

/-- THE SECOND FORM's CARD OF 'breadboardlaw24.ListListings'. -/
def listListingsUptoCard : Claim7 := { stood := { row := listListingsUptoRow, standIns := [], harness := (true, "adde9d394ac3f901ad3815d0c6fd45b8421889c7395a0d3d742e0f0aaaf82799"), looks := true }, kinds := [], alts := [], laidByText := true, laidKinds := [.data, .data, .data, .data, .listed, .data, .pinned], laidTests := true, laidLooks := .later }
def ListListingsUptoCardSaid : Prop := Claim7.holds Tryz.pinned (.plain (OpenSpec.upto listListingsSpec)) listListingsUptoCard

/-- THE SECOND FORM's CARD OF 'breadboardlaw24.ListTraces'. -/
def listTracesUptoCard : Claim7 := { stood := { row := listTracesUptoRow, standIns := [], harness := (true, "adde9d394ac3f901ad3815d0c6fd45b8421889c7395a0d3d742e0f0aaaf82799"), looks := true }, kinds := [], alts := [], laidByText := true, laidKinds := [.data, .data, .data, .data, .listed, .data, .pinned], laidTests := true, laidLooks := .later }
def ListTracesUptoCardSaid : Prop := Claim7.holds Tryz.pinned (.plain (OpenSpec.upto listTracesSpec)) listTracesUptoCard

/-- THE SECOND FORM's CARD OF 'breadboardlaw24.ListNil'. -/
def listNilUptoCard : Claim7 := { stood := { row := listNilUptoRow, standIns := [], harness := (true, "adde9d394ac3f901ad3815d0c6fd45b8421889c7395a0d3d742e0f0aaaf82799"), looks := true }, kinds := [], alts := [], laidByText := true, laidKinds := [.data, .data, .data, .data, .listed, .data, .pinned], laidTests := true, laidLooks := .later }
def ListNilUptoCardSaid : Prop := Claim7.holds Tryz.pinned (.plain (OpenSpec.upto listNilSpec)) listNilUptoCard
end Rows
end Go.Proofs.YtoigglljnklhlaaGreatDoor
