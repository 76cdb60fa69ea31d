/- Lists in the cells of rows: they begin empty, to be written in place; they are given up to be data. Conditions: none. -/
import Derived.Test.YtjinohfopjlgkaaAb20
namespace Go.Proofs.Ytjinohfopjlgkaa.Ab
open Go

end Go.Proofs.Ytjinohfopjlgkaa.Ab
