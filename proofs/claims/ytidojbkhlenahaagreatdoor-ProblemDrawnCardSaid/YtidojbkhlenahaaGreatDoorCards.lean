/-
  DERIVED. GIVEN WITH THE SEED: THE CARDS: each row of YtidojbkhlenahaaGreatDoorRows.lean that lists a variable, with what it lists TIED to the program's text (the seventh form; the later family's looks); each row that meets fmt, with fmt's text TOLD by the authors' own Lean function (tested against real Go, not proved from fmt's source: count such statements apart). THE CARD IS WHAT COUNTS. Prove the row's statement (the work); the ties are given (YtidojbkhlenahaaGreatDoorTie.lean); close each card by the builder's one call (the guide's Derived/Test/ToyasCard.lean, 'card_holds'). Laid BY PROGRAM, IN A SANDBOX (cutbox-door.mjs). By AI agents, Wed Nov 11 2026. No macro, syntax, notation, axiom, sorry.
-/
import Derived.Test.YtidojbkhlenahaaGreatDoorRows
import GoSem.ClaimSeven
namespace Go.Proofs.YtidojbkhlenahaaGreatDoor
namespace Rows

/-- THE TIED CARD OF 'fathomlinelaw13.ProblemRights'. -/
def problemRightsCard : Claim7 := { stood := { row := problemRightsRow, standIns := [], harness := (true, "64ea9f2d58e135ae7a535b744b25d4dbb7a79b449a8682238bec79bca38dbcc6"), looks := true }, kinds := [], alts := [], laidByText := true, laidKinds := [.data, .data, .data, .data, .sentinel, .sentinel, .pinned], laidTests := true, laidLooks := .later }
def ProblemRightsCardSaid : Prop := Claim7.holds Tryz.pinned (.plain (OpenSpec.ofChange problemRightsSpec)) problemRightsCard

/-- THE TIED CARD OF 'fathomlinelaw13.ProblemDrawn'. -/
def problemDrawnCard : Claim7 := { stood := { row := problemDrawnRow, standIns := [], harness := (true, "64ea9f2d58e135ae7a535b744b25d4dbb7a79b449a8682238bec79bca38dbcc6"), looks := true }, kinds := [], alts := [], laidByText := true, laidKinds := [.data, .data, .data, .data, .sentinel, .sentinel, .pinned], laidTests := true, laidLooks := .later }
def ProblemDrawnCardSaid : Prop := Claim7.holds Tryz.pinned (.plain (OpenSpec.ofChange problemDrawnSpec)) problemDrawnCard

/-- THE TIED CARD OF 'fathomlinelaw13.ProblemBack'. -/
def problemBackCard : Claim7 := { stood := { row := problemBackRow, standIns := [], harness := (true, "64ea9f2d58e135ae7a535b744b25d4dbb7a79b449a8682238bec79bca38dbcc6"), looks := true }, kinds := [], alts := [], laidByText := true, laidKinds := [.data, .data, .data, .data, .sentinel, .sentinel, .pinned], laidTests := true, laidLooks := .later }
def ProblemBackCardSaid : Prop := Claim7.holds Tryz.pinned (.plain (OpenSpec.ofChange problemBackSpec)) problemBackCard

/-- THE TIED CARD OF 'fathomlinelaw13.ProblemLines'. -/
def problemLinesCard : Claim7 := { stood := { row := problemLinesRow, standIns := [], harness := (true, "64ea9f2d58e135ae7a535b744b25d4dbb7a79b449a8682238bec79bca38dbcc6"), looks := true }, kinds := [], alts := [], laidByText := true, laidKinds := [.data, .data, .data, .data, .sentinel, .sentinel, .pinned], laidTests := true, laidLooks := .later }
def ProblemLinesCardSaid : Prop := Claim7.holds Tryz.pinned (.plain (OpenSpec.ofChange problemLinesSpec)) problemLinesCard

/-- THE SECOND FORM's CARD OF 'fathomlinelaw13.ProblemRights'. -/
def problemRightsUptoCard : Claim7 := { stood := { row := problemRightsUptoRow, standIns := [], harness := (true, "64ea9f2d58e135ae7a535b744b25d4dbb7a79b449a8682238bec79bca38dbcc6"), looks := true }, kinds := [], alts := [], laidByText := true, laidKinds := [.data, .data, .data, .data, .sentinel, .sentinel, .pinned], laidTests := true, laidLooks := .later }
def ProblemRightsUptoCardSaid : Prop := Claim7.holds Tryz.pinned (.plain (OpenSpec.upto problemRightsSpec)) problemRightsUptoCard

/-- THE SECOND FORM's CARD OF 'fathomlinelaw13.ProblemDrawn'. -/
def problemDrawnUptoCard : Claim7 := { stood := { row := problemDrawnUptoRow, standIns := [], harness := (true, "64ea9f2d58e135ae7a535b744b25d4dbb7a79b449a8682238bec79bca38dbcc6"), looks := true }, kinds := [], alts := [], laidByText := true, laidKinds := [.data, .data, .data, .data, .sentinel, .sentinel, .pinned], laidTests := true, laidLooks := .later }
def ProblemDrawnUptoCardSaid : Prop := Claim7.holds Tryz.pinned (.plain (OpenSpec.upto problemDrawnSpec)) problemDrawnUptoCard

/-- THE SECOND FORM's CARD OF 'fathomlinelaw13.ProblemBack'. -/
def problemBackUptoCard : Claim7 := { stood := { row := problemBackUptoRow, standIns := [], harness := (true, "64ea9f2d58e135ae7a535b744b25d4dbb7a79b449a8682238bec79bca38dbcc6"), looks := true }, kinds := [], alts := [], laidByText := true, laidKinds := [.data, .data, .data, .data, .sentinel, .sentinel, .pinned], laidTests := true, laidLooks := .later }
def ProblemBackUptoCardSaid : Prop := Claim7.holds Tryz.pinned (.plain (OpenSpec.upto problemBackSpec)) problemBackUptoCard

/-- THE SECOND FORM's CARD OF 'fathomlinelaw13.ProblemLines'. -/
def problemLinesUptoCard : Claim7 := { stood := { row := problemLinesUptoRow, standIns := [], harness := (true, "64ea9f2d58e135ae7a535b744b25d4dbb7a79b449a8682238bec79bca38dbcc6"), looks := true }, kinds := [], alts := [], laidByText := true, laidKinds := [.data, .data, .data, .data, .sentinel, .sentinel, .pinned], laidTests := true, laidLooks := .later }
def ProblemLinesUptoCardSaid : Prop := Claim7.holds Tryz.pinned (.plain (OpenSpec.upto problemLinesSpec)) problemLinesUptoCard
end Rows
end Go.Proofs.YtidojbkhlenahaaGreatDoor
