/-
  DERIVED. GIVEN WITH THE SEED: THE CARDS: each row of YtdilmfakkppgpaaGreatDoorRows.lean that lists a variable, with what it lists TIED to the program's text (the seventh form; the later family's looks); each row that meets fmt, with fmt's text TOLD by the authors' own Lean function (tested against real Go, not proved from fmt's source: count such statements apart). THE CARD IS WHAT COUNTS. Prove the row's statement (the work); the ties are given (YtdilmfakkppgpaaGreatDoorTie.lean); close each card by the builder's one call (the guide's Derived/Test/ToyasCard.lean, 'card_holds'). Laid BY PROGRAM, IN A SANDBOX (cutbox-door.mjs). By AI agents, Wed Nov 11 2026. No macro, syntax, notation, axiom, sorry.
-/
import Derived.Test.YtdilmfakkppgpaaGreatDoorRows
import GoSem.ClaimSeven
namespace Go.Proofs.YtdilmfakkppgpaaGreatDoor
namespace Rows

/-- THE TIED CARD OF 'fathomlinelaw12.ParseShows'. -/
def parseShowsCard : Claim7 := { stood := { row := parseShowsRow, standIns := [], harness := (true, "a114ac115dff8084369f30afeb1115c923fdf70fdfb294d96440efd4dab3ee32"), looks := true }, kinds := [], alts := [], laidByText := true, laidKinds := [.data, .data, .data, .sentinel, .sentinel], laidTests := true, laidLooks := .later }
def ParseShowsCardSaid : Prop := Claim7.holds Tryz.pinned (.plain (OpenSpec.ofChange parseShowsSpec)) parseShowsCard

/-- THE TIED CARD OF 'fathomlinelaw12.ParseBuilt'. -/
def parseBuiltCard : Claim7 := { stood := { row := parseBuiltRow, standIns := [], harness := (true, "a114ac115dff8084369f30afeb1115c923fdf70fdfb294d96440efd4dab3ee32"), looks := true }, kinds := [], alts := [], laidByText := true, laidKinds := [.data, .data, .data, .sentinel, .sentinel], laidTests := true, laidLooks := .later }
def ParseBuiltCardSaid : Prop := Claim7.holds Tryz.pinned (.plain (OpenSpec.ofChange parseBuiltSpec)) parseBuiltCard

/-- THE TIED CARD OF 'fathomlinelaw12.ParseDeep'. -/
def parseDeepCard : Claim7 := { stood := { row := parseDeepRow, standIns := [], harness := (true, "a114ac115dff8084369f30afeb1115c923fdf70fdfb294d96440efd4dab3ee32"), looks := true }, kinds := [], alts := [], laidByText := true, laidKinds := [.data, .data, .data, .sentinel, .sentinel], laidTests := true, laidLooks := .later }
def ParseDeepCardSaid : Prop := Claim7.holds Tryz.pinned (.plain (OpenSpec.ofChange parseDeepSpec)) parseDeepCard

/-- THE TIED CARD OF 'fathomlinelaw12.ParseMeans'. -/
def parseMeansCard : Claim7 := { stood := { row := parseMeansRow, standIns := [], harness := (true, "a114ac115dff8084369f30afeb1115c923fdf70fdfb294d96440efd4dab3ee32"), looks := true }, kinds := [], alts := [], laidByText := true, laidKinds := [.data, .data, .data, .sentinel, .sentinel], laidTests := true, laidLooks := .later }
def ParseMeansCardSaid : Prop := Claim7.holds Tryz.pinned (.plain (OpenSpec.ofChange parseMeansSpec)) parseMeansCard

/-- THE TIED CARD OF 'fathomlinelaw12.ParseBack'. -/
def parseBackCard : Claim7 := { stood := { row := parseBackRow, standIns := [], harness := (true, "a114ac115dff8084369f30afeb1115c923fdf70fdfb294d96440efd4dab3ee32"), looks := true }, kinds := [], alts := [], laidByText := true, laidKinds := [.data, .data, .data, .sentinel, .sentinel], laidTests := true, laidLooks := .later }
def ParseBackCardSaid : Prop := Claim7.holds Tryz.pinned (.plain (OpenSpec.ofChange parseBackSpec)) parseBackCard

/-- THE SECOND FORM's CARD OF 'fathomlinelaw12.ParseShows'. -/
def parseShowsUptoCard : Claim7 := { stood := { row := parseShowsUptoRow, standIns := [], harness := (true, "a114ac115dff8084369f30afeb1115c923fdf70fdfb294d96440efd4dab3ee32"), looks := true }, kinds := [], alts := [], laidByText := true, laidKinds := [.data, .data, .data, .sentinel, .sentinel], laidTests := true, laidLooks := .later }
def ParseShowsUptoCardSaid : Prop := Claim7.holds Tryz.pinned (.plain (OpenSpec.upto parseShowsSpec)) parseShowsUptoCard

/-- THE SECOND FORM's CARD OF 'fathomlinelaw12.ParseBuilt'. -/
def parseBuiltUptoCard : Claim7 := { stood := { row := parseBuiltUptoRow, standIns := [], harness := (true, "a114ac115dff8084369f30afeb1115c923fdf70fdfb294d96440efd4dab3ee32"), looks := true }, kinds := [], alts := [], laidByText := true, laidKinds := [.data, .data, .data, .sentinel, .sentinel], laidTests := true, laidLooks := .later }
def ParseBuiltUptoCardSaid : Prop := Claim7.holds Tryz.pinned (.plain (OpenSpec.upto parseBuiltSpec)) parseBuiltUptoCard

/-- THE SECOND FORM's CARD OF 'fathomlinelaw12.ParseDeep'. -/
def parseDeepUptoCard : Claim7 := { stood := { row := parseDeepUptoRow, standIns := [], harness := (true, "a114ac115dff8084369f30afeb1115c923fdf70fdfb294d96440efd4dab3ee32"), looks := true }, kinds := [], alts := [], laidByText := true, laidKinds := [.data, .data, .data, .sentinel, .sentinel], laidTests := true, laidLooks := .later }
def ParseDeepUptoCardSaid : Prop := Claim7.holds Tryz.pinned (.plain (OpenSpec.upto parseDeepSpec)) parseDeepUptoCard

/-- THE SECOND FORM's CARD OF 'fathomlinelaw12.ParseMeans'. -/
def parseMeansUptoCard : Claim7 := { stood := { row := parseMeansUptoRow, standIns := [], harness := (true, "a114ac115dff8084369f30afeb1115c923fdf70fdfb294d96440efd4dab3ee32"), looks := true }, kinds := [], alts := [], laidByText := true, laidKinds := [.data, .data, .data, .sentinel, .sentinel], laidTests := true, laidLooks := .later }
def ParseMeansUptoCardSaid : Prop := Claim7.holds Tryz.pinned (.plain (OpenSpec.upto parseMeansSpec)) parseMeansUptoCard

/-- THE SECOND FORM's CARD OF 'fathomlinelaw12.ParseBack'. -/
def parseBackUptoCard : Claim7 := { stood := { row := parseBackUptoRow, standIns := [], harness := (true, "a114ac115dff8084369f30afeb1115c923fdf70fdfb294d96440efd4dab3ee32"), looks := true }, kinds := [], alts := [], laidByText := true, laidKinds := [.data, .data, .data, .sentinel, .sentinel], laidTests := true, laidLooks := .later }
def ParseBackUptoCardSaid : Prop := Claim7.holds Tryz.pinned (.plain (OpenSpec.upto parseBackSpec)) parseBackUptoCard
end Rows
end Go.Proofs.YtdilmfakkppgpaaGreatDoor
