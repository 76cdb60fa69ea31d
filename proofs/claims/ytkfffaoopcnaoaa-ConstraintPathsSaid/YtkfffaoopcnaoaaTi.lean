/- The law of classes. Conditions: none. -/
import Derived.Test.YtkfffaoopcnaoaaTh
namespace Go.Proofs.Ytkfffaoopcnaoaa.Ab
open Go
theorem grp_congr {l : List SConstraint} {a b : Int} (h : root l a = root l b) : grp l a = grp l b :=
  ascI_ext (grp_asc l a) (grp_asc l b) fun y => by rw [grp_mem, grp_mem, h]
end Go.Proofs.Ytkfffaoopcnaoaa.Ab
