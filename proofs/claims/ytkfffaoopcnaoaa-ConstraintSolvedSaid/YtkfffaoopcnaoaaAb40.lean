/- Taking elements out of a list in place. Conditions: none. -/
import Derived.Test.YtkfffaoopcnaoaaAb39
import Derived.Test.YtkfffaoopcnaoaaAb34
import Derived.Test.YtkfffaoopcnaoaaIm
namespace Go.Proofs.Ytkfffaoopcnaoaa.Ab
open Go Go.RowKit

section
variable {P : Program} {ρ : Operand → V} {H : List HE} {ty : TypeId}
end
end Go.Proofs.Ytkfffaoopcnaoaa.Ab
