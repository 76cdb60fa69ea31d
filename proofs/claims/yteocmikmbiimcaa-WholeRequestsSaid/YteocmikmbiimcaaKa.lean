/- Facts on the program. Conditions: none. -/
import Derived.Test.YteocmikmbiimcaaAb11
import Derived.Test.YteocmikmbiimcaaChecked
import Derived.Test.YteocmikmbiimcaaRows
import Derived.ProofKit
set_option maxRecDepth 100000
namespace Go.Proofs.Yteocmikmbiimcaa.Ab
open Go Go.ChangeShapes Go.WideShapes Go.ChangeAt Go.RowKit

theorem own : ownKnob Try.prog.godebug = none := by kernel_rfl
theorem laidOut : laidOutB Try.prog = true := by kernel_rfl
end Go.Proofs.Yteocmikmbiimcaa.Ab
