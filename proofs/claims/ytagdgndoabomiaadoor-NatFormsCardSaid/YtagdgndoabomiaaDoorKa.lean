/- Facts on the program. Conditions: none. -/
import Derived.Test.YtagdgndoabomiaaDoorAb11
import Derived.Test.YtagdgndoabomiaaDoorChecked
import Derived.Test.YtagdgndoabomiaaDoorRows
import Derived.ProofKit
import Derived.JoinedCond
set_option maxRecDepth 100000
namespace Go.Proofs.YtagdgndoabomiaaDoor.Ab
open Go Go.ChangeShapes Go.WideShapes Go.ChangeAt Go.RowKit

theorem own : ownKnob Tryd.prog.godebug = none := by kernel_rfl
theorem laidOut : laidOutB Tryd.prog = true := by kernel_rfl
end Go.Proofs.YtagdgndoabomiaaDoor.Ab
