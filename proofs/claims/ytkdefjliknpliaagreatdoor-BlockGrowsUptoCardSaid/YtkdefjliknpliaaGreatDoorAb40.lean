/- Taking elements out of a list in place. Conditions: none. -/
import Derived.Test.YtkdefjliknpliaaGreatDoorAb39
import Derived.Test.YtkdefjliknpliaaGreatDoorAb34
import Derived.Test.YtkdefjliknpliaaGreatDoorIm
namespace Go.Proofs.YtkdefjliknpliaaGreatDoor.Ab
open Go Go.RowKit

section
variable {P : Program} {ρ : Operand → V} {H : List HE} {ty : TypeId}
end
end Go.Proofs.YtkdefjliknpliaaGreatDoor.Ab
