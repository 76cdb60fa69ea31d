/- strconv.Itoa in the plain language. Conditions: none. -/
import Derived.Test.YtgcmhhcopeiomaaGreatDoorJm
import Derived.Lib.ItoaNum
namespace Go.Proofs.YtgcmhhcopeiomaaGreatDoor.Ab
open Go
def itoaM (n : Int) : Option (List UInt8) := if -9223372036854775808 ≤ n ∧ n ≤ 9223372036854775807 then some (Lib.itoa n) else none
end Go.Proofs.YtgcmhhcopeiomaaGreatDoor.Ab
