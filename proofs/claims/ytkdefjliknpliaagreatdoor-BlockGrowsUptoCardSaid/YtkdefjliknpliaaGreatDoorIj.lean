/- Plain laws, joined. Conditions: none. -/
import Derived.Test.YtkdefjliknpliaaGreatDoorAb29
import Derived.Lib.Join
import Derived.Lib.ItoaNum
namespace Go.Proofs.YtkdefjliknpliaaGreatDoor.Ab
section
/- strings.Join in the plain language. Conditions: none. -/
open Go
def joinM (xs : List (List UInt8)) (sep : List UInt8) : Option (List UInt8) :=
  if xs.length ≤ 140737488355328 ∧ (Lib.join xs sep).length ≤ 140737488355328 then some (Lib.join xs sep) else none
end
section
/- strconv.Itoa in the plain language. Conditions: none. -/
open Go
def itoaM (n : Int) : Option (List UInt8) := if -9223372036854775808 ≤ n ∧ n ≤ 9223372036854775807 then some (Lib.itoa n) else none
end
end Go.Proofs.YtkdefjliknpliaaGreatDoor.Ab
