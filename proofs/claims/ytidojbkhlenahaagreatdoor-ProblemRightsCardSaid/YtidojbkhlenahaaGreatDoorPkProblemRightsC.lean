/- The closed facts of the statement ProblemRightsCard. No condition. -/
import Derived.Test.YtidojbkhlenahaaGreatDoorCards
import Derived.Test.YtidojbkhlenahaaGreatDoorTie
import Derived.ProofKit
import Derived.OpenShut
import Derived.ShutString
import Derived.ChangeOld
namespace Go.Proofs.YtidojbkhlenahaaGreatDoor.problemRights
open Go.ChangeShapes Go.WideShapes Go.ChangeAt Go.RowKit
open Go.ChangeMaps (open_string shut_string)
set_option linter.unusedVariables false
theorem closed1 : (Rows.problemRightsRow.inPlace == Tryz.prog.inPlace 3) = true := by kernel_rfl
theorem closed2 : (Rows.problemRightsRow.unfollowed == Tryz.prog.unfollowed 3) = true := by kernel_rfl
theorem closed3 : (Rows.problemRightsRow.recurses == Tryz.prog.recurses 3) = true := by kernel_rfl
theorem closed4 : (Rows.problemRightsRow.named == Tryz.prog.varsNamed 3) = true := by kernel_rfl
theorem closed : joinedFacts Tryz.prog 3 Tryz.f3 (OpenSpec.ofChange Rows.problemRightsSpec).bare Rows.problemRightsRow = true := by
  unfold joinedFacts
  rw [closed1, closed2, closed3, closed4]
  kernel_rfl
end Go.Proofs.YtidojbkhlenahaaGreatDoor.problemRights
