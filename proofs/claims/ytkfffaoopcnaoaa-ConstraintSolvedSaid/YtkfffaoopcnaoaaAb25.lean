/- Lists that may have room behind their last element: capacity, a piece into the spare room, copies within a list, zeros that are appended to a piece without room. Conditions: none. -/
import Derived.Test.YtkfffaoopcnaoaaAb24
import Derived.Lib.Overlaps
import Derived.Lib.AppendZerosOnto
namespace Go.Proofs.Ytkfffaoopcnaoaa.Ab
open Go

section
variable {F : FC} {ρ : Operand → V} {H : List HE} {ty : TypeId}
end

section
variable {P : Program} {ρ : Operand → V} {H : List HE} {ty : TypeId}
end

end Go.Proofs.Ytkfffaoopcnaoaa.Ab
