/- The law of more rules. Conditions: none. -/
import Derived.Test.YtkfffaoopcnaoaaTq
namespace Go.Proofs.Ytkfffaoopcnaoaa.Ab
open Go
section
variable {n : Nat} {l t : List SConstraint} {a b : Int}
end
end Go.Proofs.Ytkfffaoopcnaoaa.Ab
