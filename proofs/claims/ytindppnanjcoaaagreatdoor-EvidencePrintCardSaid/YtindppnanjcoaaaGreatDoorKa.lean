/- Facts on the program. Conditions: none. -/
import Derived.Test.YtindppnanjcoaaaGreatDoorAb11
import Derived.Test.YtindppnanjcoaaaGreatDoorChecked
import Derived.Test.YtindppnanjcoaaaGreatDoorRows
import Derived.ProofKit
import Derived.JoinedCond
set_option maxRecDepth 100000
namespace Go.Proofs.YtindppnanjcoaaaGreatDoor.Ab
open Go Go.ChangeShapes Go.WideShapes Go.ChangeAt Go.RowKit

theorem own : ownKnob Tryz.prog.godebug = none := by kernel_rfl
theorem laidOut : laidOutB Tryz.prog = true := by kernel_rfl
end Go.Proofs.YtindppnanjcoaaaGreatDoor.Ab
