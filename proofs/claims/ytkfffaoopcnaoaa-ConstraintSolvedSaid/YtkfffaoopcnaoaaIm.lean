/- Pieces of a list in plain Lean. Conditions: none. -/
import Derived.RowKit
namespace Go.Proofs.Ytkfffaoopcnaoaa.Ab
open Go
end Go.Proofs.Ytkfffaoopcnaoaa.Ab
