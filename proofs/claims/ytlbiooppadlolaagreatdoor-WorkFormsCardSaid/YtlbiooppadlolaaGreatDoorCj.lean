/- What the row asks of the program. Conditions: none. -/
import Derived.Test.YtlbiooppadlolaaGreatDoorKa
import Derived.Test.YtlbiooppadlolaaGreatDoorLa
import Derived.Test.YtlbiooppadlolaaGreatDoorOk
set_option maxRecDepth 100000
namespace Go.Proofs.YtlbiooppadlolaaGreatDoor.Ab
open Go Go.ChangeShapes Go.WideShapes Go.ChangeAt Go.RowKit
theorem row_joined : joinedFacts Tryz.prog 3 Tryz.f3 Rows.workFormsSpec Rows.workFormsRow = true := by kernel_rfl
end Go.Proofs.YtlbiooppadlolaaGreatDoor.Ab
