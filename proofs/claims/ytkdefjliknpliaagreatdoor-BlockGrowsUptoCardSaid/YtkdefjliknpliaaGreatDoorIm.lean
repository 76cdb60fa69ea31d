/- Pieces of a list in plain Lean. Conditions: none. -/
import Derived.RowKit
namespace Go.Proofs.YtkdefjliknpliaaGreatDoor.Ab
open Go
end Go.Proofs.YtkdefjliknpliaaGreatDoor.Ab
