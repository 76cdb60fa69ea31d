/- The law of classes. Conditions: none. -/
import Derived.Test.YtkfffaoopcnaoaaTh
namespace Go.Proofs.Ytkfffaoopcnaoaa.Ab
open Go
theorem Apart_ok {n : Nat} {l : List SConstraint} (hv : validB l = true) (hn : 1000000 < n) (a b : Int) : m_constraint_Apart n l a b = some (apL l a b, 0) := by rw [Apart_eq hn, hv]; rfl
end Go.Proofs.Ytkfffaoopcnaoaa.Ab
