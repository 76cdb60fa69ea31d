/- Lists in the cells of rows: they begin empty, to be written in place; they are given up to be data. Conditions: none. -/
import Derived.Test.YtagdgndoabomiaaDoorAb20
namespace Go.Proofs.YtagdgndoabomiaaDoor.Ab
open Go

end Go.Proofs.YtagdgndoabomiaaDoor.Ab
