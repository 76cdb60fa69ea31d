/- Taking elements out of a list in place. Conditions: none. -/
import Derived.Test.YtjinohfopjlgkaaAb39
import Derived.Test.YtjinohfopjlgkaaAb34
import Derived.Test.YtjinohfopjlgkaaIm
namespace Go.Proofs.Ytjinohfopjlgkaa.Ab
open Go Go.RowKit

section
variable {P : Program} {ρ : Operand → V} {H : List HE} {ty : TypeId}
end
end Go.Proofs.Ytjinohfopjlgkaa.Ab
