/- Facts on the program. Conditions: none. -/
import Derived.Test.YtlbiooppadlolaaGreatDoorAb11
import Derived.Test.YtlbiooppadlolaaGreatDoorChecked
import Derived.Test.YtlbiooppadlolaaGreatDoorRows
import Derived.ProofKit
import Derived.JoinedCond
set_option maxRecDepth 100000
namespace Go.Proofs.YtlbiooppadlolaaGreatDoor.Ab
open Go Go.ChangeShapes Go.WideShapes Go.ChangeAt Go.RowKit

theorem own : ownKnob Tryz.prog.godebug = none := by kernel_rfl
theorem laidOut : laidOutB Tryz.prog = true := by kernel_rfl
end Go.Proofs.YtlbiooppadlolaaGreatDoor.Ab
