/- Lists of lists in cells of rows are given up to be data. Conditions: none. -/
import Derived.Test.YtkdefjliknpliaaGreatDoorAb30
import Derived.Test.YtkdefjliknpliaaGreatDoorAb21
namespace Go.Proofs.YtkdefjliknpliaaGreatDoor.Ab
open Go

section
variable {H : List HE} {α : Type} {f : α → D} {e eo : TypeId} {N : Nat} {M : List (Bool × List α)}
end
end Go.Proofs.YtkdefjliknpliaaGreatDoor.Ab
