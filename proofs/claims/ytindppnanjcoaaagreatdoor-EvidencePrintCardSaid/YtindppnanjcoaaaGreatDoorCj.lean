/- What the row asks of the program. Conditions: none. -/
import Derived.Test.YtindppnanjcoaaaGreatDoorKa
import Derived.Test.YtindppnanjcoaaaGreatDoorLa
import Derived.Test.YtindppnanjcoaaaGreatDoorOk
set_option maxRecDepth 100000
namespace Go.Proofs.YtindppnanjcoaaaGreatDoor.Ab
open Go Go.ChangeShapes Go.WideShapes Go.ChangeAt Go.RowKit
theorem row_joined : joinedFacts Tryz.prog 3 Tryz.f3 Rows.evidencePrintSpec Rows.evidencePrintRow = true := by kernel_rfl
end Go.Proofs.YtindppnanjcoaaaGreatDoor.Ab
