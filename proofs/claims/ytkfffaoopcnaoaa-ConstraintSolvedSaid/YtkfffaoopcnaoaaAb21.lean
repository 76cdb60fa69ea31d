/- Lists in the cells of rows: they begin empty, to be written in place; they are given up to be data. Conditions: none. -/
import Derived.Test.YtkfffaoopcnaoaaAb20
namespace Go.Proofs.Ytkfffaoopcnaoaa.Ab
open Go

end Go.Proofs.Ytkfffaoopcnaoaa.Ab
