/- Facts on the program. Conditions: none. -/
import Derived.Test.YtjinohfopjlgkaaAb11
import Derived.Test.YtjinohfopjlgkaaChecked
import Derived.Test.YtjinohfopjlgkaaRows
import Derived.ProofKit
import Derived.JoinedCond
set_option maxRecDepth 100000
namespace Go.Proofs.Ytjinohfopjlgkaa.Ab
open Go Go.ChangeShapes Go.WideShapes Go.ChangeAt Go.RowKit

theorem own : ownKnob Try.prog.godebug = none := by kernel_rfl
theorem laidOut : laidOutB Try.prog = true := by kernel_rfl
end Go.Proofs.Ytjinohfopjlgkaa.Ab
