/- The law ConstraintSolved holds. Conditions: none. -/
import Derived.Test.YtkfffaoopcnaoaaKa
import Derived.Test.YtkfffaoopcnaoaaOk
import Derived.Test.YtkfffaoopcnaoaaTz
import Derived.Test.YtkfffaoopcnaoaaGh
set_option maxRecDepth 100000
namespace Go.Proofs.Ytkfffaoopcnaoaa.Ab
open Go Go.ChangeShapes Go.WideShapes Go.ChangeAt Go.RowKit

theorem constraintSolved_all (xs : List D) (h : TyAll Try.prog 9223372036854775807 [22, 42] xs) : Fn Try.prog 10 xs (.bool true) := by
  match xs, h with
  | [x0, x1], ⟨⟨c0, h0, e0⟩, ⟨c1, h1, e1⟩, _⟩ =>
    obtain ⟨y0, rfl, o0⟩ := tyof22 h0
    rw [row22] at e0
    have q0 : x0 = (.sl (y0.map SConstraint.e)) := e0
    obtain ⟨y1, rfl, o1⟩ := tyof42 h1
    rw [row42] at e1
    have q1 : x1 = (.sl (y1.map D.i)) := e1
    subst q0 q1
    exact m_law32_ConstraintSolved_ok ((fun o0 o1 => plain_ConstraintSolved) o0 o1)

set_option maxRecDepth 100000 in
/-- The law's row. -/
theorem constraintSolved_holds : Rows.ConstraintSolvedSaid :=
  OpenClaim.holds_of_wide 10 Try.f10 rfl rfl rfl rfl rfl rfl rfl ⟨rfl, rfl, rfl, rfl, rfl⟩ rfl rfl rfl rfl rfl (by kernel_rfl) Try.func10 (by kernel_rfl)
    (of_decide_eq_true (by kernel_rfl)) (by unfold Func.isWrapper; first | (rw [if_pos (by decide +kernel)]; kernel_rfl) | (rw [if_neg (by decide +kernel)]; exact ⟨rfl, rfl⟩))
    (fun os started H enc _ => by
      have lifted : ReturnsInHanded {} Try.checked os 10 .any (Rows.constraintSolvedSpec.pre6 enc Try.prog Try.f10 Rows.constraintSolvedRow.domain false)
          (Rows.constraintSolvedSpec.post enc Try.prog Try.f10 Rows.constraintSolvedRow.apart Rows.constraintSolvedRow.fresh Rows.constraintSolvedRow.handsOn Rows.constraintSolvedRow.again) := by
        refine returnsInHanded_of_change (C := Try.checked) own started (by kernel_rfl) Try.func10
          (ChangeSpec.witness6 (enc := enc) (C := Try.checked) false ⟨#[], #[.slice none 0 0, .slice none 0 0], []⟩ 8 (by kernel_rfl) (by kernel_rfl) (by kernel_rfl) (by kernel_rfl)) ?_
        intro W base args ds gs before hval hW _ _
        exact law_calls (P := Try.prog) (ts := [22, 42]) (tb := 4) (by rw [Try.params10]) rfl Try.underlying4 rfl (by kernel_rfl) laidOut (by kernel_rfl) (fun ds h => by
          match ds, h with
          | [_, _], _ => exact ⟨rfl, rfl, rfl⟩) (by simp [KC]) (fun xs h => constraintSolved_all xs h) hval hW
      exact lifted)

end Go.Proofs.Ytkfffaoopcnaoaa.Ab
