/- The law ConstraintNormal holds. Conditions: none. -/
import Derived.Test.YtkfffaoopcnaoaaKa
import Derived.Test.YtkfffaoopcnaoaaOk
import Derived.Test.YtkfffaoopcnaoaaTq
import Derived.Test.YtkfffaoopcnaoaaGc
set_option maxRecDepth 100000
namespace Go.Proofs.Ytkfffaoopcnaoaa.Ab
open Go Go.ChangeShapes Go.WideShapes Go.ChangeAt Go.RowKit

theorem constraintNormal_all (xs : List D) (h : TyAll Try.prog 9223372036854775807 [22, 3, 3] xs) : Fn Try.prog 3 xs (.bool true) := by
  match xs, h with
  | [x0, x1, x2], ⟨⟨c0, h0, e0⟩, ⟨c1, h1, e1⟩, ⟨c2, h2, e2⟩, _⟩ =>
    obtain ⟨y0, rfl, o0⟩ := tyof22 h0
    rw [row22] at e0
    have q0 : x0 = (.sl (y0.map SConstraint.e)) := e0
    obtain ⟨y1, rfl, o1⟩ := tyof3 h1
    rw [row3] at e1
    have q1 : x1 = (.int .i64 y1) := e1
    obtain ⟨y2, rfl, o2⟩ := tyof3 h2
    rw [row3] at e2
    have q2 : x2 = (.int .i64 y2) := e2
    subst q0 q1 q2
    exact m_law32_ConstraintNormal_ok ((fun o0 o1 o2 => plain_ConstraintNormal) o0 o1 o2)

set_option maxRecDepth 100000 in
/-- The law's row. -/
theorem constraintNormal_holds : Rows.ConstraintNormalSaid :=
  OpenClaim.holds_of_wide 3 Try.f3 rfl rfl rfl rfl rfl rfl rfl ⟨rfl, rfl, rfl, rfl, rfl⟩ rfl rfl rfl rfl rfl (by kernel_rfl) Try.func3 (by kernel_rfl)
    (of_decide_eq_true (by kernel_rfl)) (by unfold Func.isWrapper; first | (rw [if_pos (by decide +kernel)]; kernel_rfl) | (rw [if_neg (by decide +kernel)]; exact ⟨rfl, rfl⟩))
    (fun os started H enc _ => by
      have lifted : ReturnsInHanded {} Try.checked os 3 .any (Rows.constraintNormalSpec.pre6 enc Try.prog Try.f3 Rows.constraintNormalRow.domain false)
          (Rows.constraintNormalSpec.post enc Try.prog Try.f3 Rows.constraintNormalRow.apart Rows.constraintNormalRow.fresh Rows.constraintNormalRow.handsOn Rows.constraintNormalRow.again) := by
        refine returnsInHanded_of_change (C := Try.checked) own started (by kernel_rfl) Try.func3
          (ChangeSpec.witness6 (enc := enc) (C := Try.checked) false ⟨#[], #[.slice none 0 0, .int .i64 0, .int .i64 0], []⟩ 8 (by kernel_rfl) (by kernel_rfl) (by kernel_rfl) (by kernel_rfl)) ?_
        intro W base args ds gs before hval hW _ _
        exact law_calls (P := Try.prog) (ts := [22, 3, 3]) (tb := 4) (by rw [Try.params3]) rfl Try.underlying4 rfl (by kernel_rfl) laidOut (by kernel_rfl) (fun ds h => by
          match ds, h with
          | [_, _, _], _ => exact ⟨rfl, rfl, rfl⟩) (by simp [KC]) (fun xs h => constraintNormal_all xs h) hval hW
      exact lifted)

end Go.Proofs.Ytkfffaoopcnaoaa.Ab
