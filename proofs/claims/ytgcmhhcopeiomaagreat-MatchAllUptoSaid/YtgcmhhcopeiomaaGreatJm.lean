/- strings.Join in the plain language. Conditions: none. -/
import Derived.Test.YtgcmhhcopeiomaaGreatAb29
import Derived.Shelf.Strings.OnBuilder
namespace Go.Proofs.YtgcmhhcopeiomaaGreat.Ab
open Go
def joinM (xs : List (List UInt8)) (sep : List UInt8) : Option (List UInt8) :=
  if xs.length ≤ 140737488355328 ∧ (Lib.join xs sep).length ≤ 140737488355328 then some (Lib.join xs sep) else none
end Go.Proofs.YtgcmhhcopeiomaaGreat.Ab
