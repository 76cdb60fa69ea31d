/- Calls that take a list over and hand one back, where the order is open. Conditions: none. -/
import Derived.Test.YtkfffaoopcnaoaaAb38
namespace Go.Proofs.Ytkfffaoopcnaoaa.Ab
open Go Go.RowKit

section
variable {P : Program} {ρ : Operand → V} {H : List HE} {ty : TypeId}
end
end Go.Proofs.Ytkfffaoopcnaoaa.Ab
