/-
  DERIVED. GIVEN WITH THE SEED: THE CARDS: each row of YtmocmkfpblakbaaGreatDoorRows.lean that lists a variable, with what it lists TIED to the program's text (the seventh form; the later family's looks); each row that meets fmt, with fmt's text TOLD by the authors' own Lean function (tested against real Go, not proved from fmt's source: count such statements apart). THE CARD IS WHAT COUNTS. Prove the row's statement (the work); the ties are given (YtmocmkfpblakbaaGreatDoorTie.lean); close each card by the builder's one call (the guide's Derived/Test/ToyasCard.lean, 'card_holds'). Laid BY PROGRAM, IN A SANDBOX (cutbox-door.mjs). By AI agents, Wed Nov 11 2026. No macro, syntax, notation, axiom, sorry.
-/
import Derived.Test.YtmocmkfpblakbaaGreatDoorRows
import GoSem.ClaimSeven
namespace Go.Proofs.YtmocmkfpblakbaaGreatDoor
namespace Rows

/-- THE TIED CARD OF 'fathomlinelaw4.DigitsShow'. -/
def digitsShowCard : Claim7 := { stood := { row := digitsShowRow, standIns := [], harness := (true, "e082cc7aa9ea21adff87e3260cdf0d69229b681d7a569fdd3e5be082747865bd"), looks := true }, kinds := [], alts := [], laidByText := true, laidKinds := [.data, .data, .data, .sentinel, .sentinel], laidTests := true, laidLooks := .later }
def DigitsShowCardSaid : Prop := Claim7.holds Tryz.pinned (.plain (OpenSpec.ofChange digitsShowSpec)) digitsShowCard

/-- THE TIED CARD OF 'fathomlinelaw4.DigitsSpoilt'. -/
def digitsSpoiltCard : Claim7 := { stood := { row := digitsSpoiltRow, standIns := [], harness := (true, "e082cc7aa9ea21adff87e3260cdf0d69229b681d7a569fdd3e5be082747865bd"), looks := true }, kinds := [], alts := [], laidByText := true, laidKinds := [.data, .data, .data, .sentinel, .sentinel], laidTests := true, laidLooks := .later }
def DigitsSpoiltCardSaid : Prop := Claim7.holds Tryz.pinned (.plain (OpenSpec.ofChange digitsSpoiltSpec)) digitsSpoiltCard

/-- THE TIED CARD OF 'fathomlinelaw4.DigitsBack'. -/
def digitsBackCard : Claim7 := { stood := { row := digitsBackRow, standIns := [], harness := (true, "e082cc7aa9ea21adff87e3260cdf0d69229b681d7a569fdd3e5be082747865bd"), looks := true }, kinds := [], alts := [], laidByText := true, laidKinds := [.data, .data, .data, .sentinel, .sentinel], laidTests := true, laidLooks := .later }
def DigitsBackCardSaid : Prop := Claim7.holds Tryz.pinned (.plain (OpenSpec.ofChange digitsBackSpec)) digitsBackCard

/-- THE SECOND FORM's CARD OF 'fathomlinelaw4.DigitsShow'. -/
def digitsShowUptoCard : Claim7 := { stood := { row := digitsShowUptoRow, standIns := [], harness := (true, "e082cc7aa9ea21adff87e3260cdf0d69229b681d7a569fdd3e5be082747865bd"), looks := true }, kinds := [], alts := [], laidByText := true, laidKinds := [.data, .data, .data, .sentinel, .sentinel], laidTests := true, laidLooks := .later }
def DigitsShowUptoCardSaid : Prop := Claim7.holds Tryz.pinned (.plain (OpenSpec.upto digitsShowSpec)) digitsShowUptoCard

/-- THE SECOND FORM's CARD OF 'fathomlinelaw4.DigitsSpoilt'. -/
def digitsSpoiltUptoCard : Claim7 := { stood := { row := digitsSpoiltUptoRow, standIns := [], harness := (true, "e082cc7aa9ea21adff87e3260cdf0d69229b681d7a569fdd3e5be082747865bd"), looks := true }, kinds := [], alts := [], laidByText := true, laidKinds := [.data, .data, .data, .sentinel, .sentinel], laidTests := true, laidLooks := .later }
def DigitsSpoiltUptoCardSaid : Prop := Claim7.holds Tryz.pinned (.plain (OpenSpec.upto digitsSpoiltSpec)) digitsSpoiltUptoCard

/-- THE SECOND FORM's CARD OF 'fathomlinelaw4.DigitsBack'. -/
def digitsBackUptoCard : Claim7 := { stood := { row := digitsBackUptoRow, standIns := [], harness := (true, "e082cc7aa9ea21adff87e3260cdf0d69229b681d7a569fdd3e5be082747865bd"), looks := true }, kinds := [], alts := [], laidByText := true, laidKinds := [.data, .data, .data, .sentinel, .sentinel], laidTests := true, laidLooks := .later }
def DigitsBackUptoCardSaid : Prop := Claim7.holds Tryz.pinned (.plain (OpenSpec.upto digitsBackSpec)) digitsBackUptoCard
end Rows
end Go.Proofs.YtmocmkfpblakbaaGreatDoor
