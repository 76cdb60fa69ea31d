/- Texts: pieces of them, bytes as a text, their order. Conditions: none. -/
import Derived.Test.YtkfffaoopcnaoaaAb16
import Derived.Laws.BytesArg
namespace Go.Proofs.Ytkfffaoopcnaoaa.Ab
open Go

section
variable {P : Program} {ρ : Operand → V} {H : List HE} {ty : TypeId} {x y : Operand} {t u : TypeId} {s s' : List UInt8}
end
end Go.Proofs.Ytkfffaoopcnaoaa.Ab
