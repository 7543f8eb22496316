/- The closed facts of the statement ProblemDrawnCard. No condition. -/
import Derived.Test.YtidojbkhlenahaaGreatDoorCards
import Derived.Test.YtidojbkhlenahaaGreatDoorTie
import Derived.ProofKit
import Derived.OpenShut
import Derived.ShutString
import Derived.ChangeOld
namespace Go.Proofs.YtidojbkhlenahaaGreatDoor.problemDrawn
open Go.ChangeShapes Go.WideShapes Go.ChangeAt Go.RowKit
open Go.ChangeMaps (open_string shut_string)
set_option linter.unusedVariables false
theorem closed1 : (Rows.problemDrawnRow.inPlace == Tryz.prog.inPlace 4) = true := by kernel_rfl
theorem closed2 : (Rows.problemDrawnRow.unfollowed == Tryz.prog.unfollowed 4) = true := by kernel_rfl
theorem closed3 : (Rows.problemDrawnRow.recurses == Tryz.prog.recurses 4) = true := by kernel_rfl
theorem closed4 : (Rows.problemDrawnRow.named == Tryz.prog.varsNamed 4) = true := by kernel_rfl
theorem closed : joinedFacts Tryz.prog 4 Tryz.f4 (OpenSpec.ofChange Rows.problemDrawnSpec).bare Rows.problemDrawnRow = true := by
  unfold joinedFacts
  rw [closed1, closed2, closed3, closed4]
  kernel_rfl
end Go.Proofs.YtidojbkhlenahaaGreatDoor.problemDrawn
