/- Facts on the program, and what the laws' arguments are. Conditions: none. -/
import Derived.Test.YtciojlggdnmncaaAb11
import Derived.Test.YtciojlggdnmncaaTy
import Derived.Test.YtciojlggdnmncaaChecked
import Derived.Test.YtciojlggdnmncaaRows
import Derived.ProofKit
set_option maxRecDepth 100000
namespace Go.Proofs.Ytciojlggdnmncaa.Ab
open Go Go.ChangeShapes Go.WideShapes Go.ChangeAt Go.RowKit

theorem own : ownKnob Try.prog.godebug = none := by kernel_rfl
theorem laidOut : laidOutB Try.prog = true := by kernel_rfl
theorem one3 : isRow Try.prog 3 = false := by simp [isRow, Try.underlying3]
theorem one9 : isRow Try.prog 9 = false := by simp [isRow, Try.underlying9]


end Go.Proofs.Ytciojlggdnmncaa.Ab
