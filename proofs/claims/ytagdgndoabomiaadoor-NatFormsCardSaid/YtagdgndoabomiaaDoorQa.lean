/- Sums and differences, and what both make of any lists. Conditions: none. -/
import Derived.Test.YtagdgndoabomiaaDoorNf
import Derived.Test.YtagdgndoabomiaaDoorOk
namespace Go.Proofs.YtagdgndoabomiaaDoor.Ab
open Go

theorem i64_ok {x : Int} (h : (Lit.int .i64 x).wf = true) : -9223372036854775808 ≤ x ∧ x ≤ 9223372036854775807 := by
  simp [Lit.wf, IntKind.min, IntKind.max, IntKind.signed, IntKind.bits] at h; omega

theorem fu4 : 10000 < FU := by decide
theorem fuM {k : Nat} (h : k ≤ ML) : k < FU := Nat.lt_of_le_of_lt h (by decide)
/-- Both functions yield the same, a short list and a number. -/
def Both (p q : Option (List Int × Int)) : Prop := ∃ r, p = some r ∧ q = some r ∧ r.1.length ≤ 128
theorem same_self {a : List Int} (h : a.length ≤ 128) : m_ref03_Same FU a a = some true := by
  rw [ref_Same (by simp only [ML]; omega) (by simp only [FU]; omega)]; simp
end Go.Proofs.YtagdgndoabomiaaDoor.Ab
