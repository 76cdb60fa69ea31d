/- slices.Compact in plain Lean: equal neighbours are left out. Conditions: none. -/
import Derived.Test.YtjinohfopjlgkaaPl
import Derived.Test.YtjinohfopjlgkaaAb34
namespace Go.Proofs.Ytjinohfopjlgkaa.Ab
open Go
section
variable {α : Type} [DecidableEq α]
end
end Go.Proofs.Ytjinohfopjlgkaa.Ab
