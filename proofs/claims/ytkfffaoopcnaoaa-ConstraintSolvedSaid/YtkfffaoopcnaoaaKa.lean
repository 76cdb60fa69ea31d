/- Facts on the program. Conditions: none. -/
import Derived.Test.YtkfffaoopcnaoaaAb11
import Derived.Test.YtkfffaoopcnaoaaChecked
import Derived.Test.YtkfffaoopcnaoaaRows
import Derived.ProofKit
import Derived.JoinedCond
set_option maxRecDepth 100000
namespace Go.Proofs.Ytkfffaoopcnaoaa.Ab
open Go Go.ChangeShapes Go.WideShapes Go.ChangeAt Go.RowKit

theorem own : ownKnob Try.prog.godebug = none := by kernel_rfl
theorem laidOut : laidOutB Try.prog = true := by kernel_rfl
end Go.Proofs.Ytkfffaoopcnaoaa.Ab
