/-
  DERIVED. GIVEN WITH THE SEED: THE CARDS: each row of YtmocmkfpblakbaaDoorRows.lean that lists a variable, with what it lists TIED to the program's text (the seventh form; the later family's looks); each row that meets fmt, with fmt's text TOLD by the authors' own Lean function (tested against real Go, not proved from fmt's source: count such statements apart). THE CARD IS WHAT COUNTS. Prove the row's statement (the work); the ties are given (YtmocmkfpblakbaaDoorTie.lean); close each card by the builder's one call (the guide's Derived/Test/ToyasCard.lean, 'card_holds'). Laid BY PROGRAM, IN A SANDBOX (cutbox-door.mjs). By AI agents, Wed Nov 11 2026. No macro, syntax, notation, axiom, sorry.
-/
import Derived.Test.YtmocmkfpblakbaaDoorRows
import GoSem.ClaimSeven
namespace Go.Proofs.YtmocmkfpblakbaaDoor
namespace Rows

/-- THE TIED CARD OF 'fathomlinelaw4.DigitsLong'. -/
def digitsLongCard : Claim7 := { stood := { row := digitsLongRow, standIns := [], harness := (true, "e3f8f2b0d5bac25429bc1c03d874b51c297f2949d61a4d14514259d429cae124"), looks := true }, kinds := [], alts := [], laidByText := true, laidKinds := [.data, .data, .data, .sentinel, .sentinel], laidTests := true, laidLooks := .later }
def DigitsLongCardSaid : Prop := Claim7.holds Tryd.pinned (.plain (OpenSpec.ofChange digitsLongSpec)) digitsLongCard

/-- THE TIED CARD OF 'fathomlinelaw4.DigitsEven'. -/
def digitsEvenCard : Claim7 := { stood := { row := digitsEvenRow, standIns := [], harness := (true, "e3f8f2b0d5bac25429bc1c03d874b51c297f2949d61a4d14514259d429cae124"), looks := true }, kinds := [], alts := [], laidByText := true, laidKinds := [.data, .data, .data, .sentinel, .sentinel], laidTests := true, laidLooks := .later }
def DigitsEvenCardSaid : Prop := Claim7.holds Tryd.pinned (.plain (OpenSpec.ofChange digitsEvenSpec)) digitsEvenCard

/-- THE SECOND FORM's CARD OF 'fathomlinelaw4.DigitsLong'. -/
def digitsLongUptoCard : Claim7 := { stood := { row := digitsLongUptoRow, standIns := [], harness := (true, "e3f8f2b0d5bac25429bc1c03d874b51c297f2949d61a4d14514259d429cae124"), looks := true }, kinds := [], alts := [], laidByText := true, laidKinds := [.data, .data, .data, .sentinel, .sentinel], laidTests := true, laidLooks := .later }
def DigitsLongUptoCardSaid : Prop := Claim7.holds Tryd.pinned (.plain (OpenSpec.upto digitsLongSpec)) digitsLongUptoCard

/-- THE SECOND FORM's CARD OF 'fathomlinelaw4.DigitsEven'. -/
def digitsEvenUptoCard : Claim7 := { stood := { row := digitsEvenUptoRow, standIns := [], harness := (true, "e3f8f2b0d5bac25429bc1c03d874b51c297f2949d61a4d14514259d429cae124"), looks := true }, kinds := [], alts := [], laidByText := true, laidKinds := [.data, .data, .data, .sentinel, .sentinel], laidTests := true, laidLooks := .later }
def DigitsEvenUptoCardSaid : Prop := Claim7.holds Tryd.pinned (.plain (OpenSpec.upto digitsEvenSpec)) digitsEvenUptoCard
end Rows
end Go.Proofs.YtmocmkfpblakbaaDoor
