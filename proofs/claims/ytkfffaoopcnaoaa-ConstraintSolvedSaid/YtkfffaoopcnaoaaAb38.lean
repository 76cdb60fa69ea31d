/- Lists of rows: copies, the piece that reaches behind the end, zeros appended, overlaps. Conditions: none. -/
import Derived.Test.YtkfffaoopcnaoaaAb37
import Derived.Test.YtkfffaoopcnaoaaAb25
namespace Go.Proofs.Ytkfffaoopcnaoaa.Ab
open Go Go.RowKit

section
variable {P : Program} {ρ : Operand → V} {H : List HE} {ty : TypeId}
end

section
variable {F : FC} {ρ : Operand → V} {H : List HE} {ty : TypeId}
end
end Go.Proofs.Ytkfffaoopcnaoaa.Ab
