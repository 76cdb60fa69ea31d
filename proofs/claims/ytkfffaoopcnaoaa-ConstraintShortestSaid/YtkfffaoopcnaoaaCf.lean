/- The law ConstraintShortest holds. Conditions: none. -/
import Derived.Test.YtkfffaoopcnaoaaKa
import Derived.Test.YtkfffaoopcnaoaaOk
import Derived.Test.YtkfffaoopcnaoaaTs
import Derived.Test.YtkfffaoopcnaoaaGf
set_option maxRecDepth 100000
namespace Go.Proofs.Ytkfffaoopcnaoaa.Ab
open Go Go.ChangeShapes Go.WideShapes Go.ChangeAt Go.RowKit

theorem constraintShortest_all (xs : List D) (h : TyAll Try.prog 9223372036854775807 [22, 3, 48] xs) : Fn Try.prog 5 xs (.bool true) := by
  match xs, h with
  | [x0, x1, x2], ⟨⟨c0, h0, e0⟩, ⟨c1, h1, e1⟩, ⟨c2, h2, e2⟩, _⟩ =>
    obtain ⟨y0, rfl, o0⟩ := tyof22 h0
    rw [row22] at e0
    have q0 : x0 = (.sl (y0.map SConstraint.e)) := e0
    obtain ⟨y1, rfl, o1⟩ := tyof3 h1
    rw [row3] at e1
    have q1 : x1 = (.int .i64 y1) := e1
    obtain ⟨y2, rfl, o2⟩ := tyof48 h2
    rw [row48] at e2
    have q2 : x2 = (.sl (y2.map (D.int .u8))) := e2
    subst q0 q1 q2
    exact m_law32_ConstraintShortest_ok ((fun o0 o1 o2 => plain_ConstraintShortest fun y hy => u8_ok (o2.2 y hy)) o0 o1 o2)

set_option maxRecDepth 100000 in
/-- The law's row. -/
theorem constraintShortest_holds : Rows.ConstraintShortestSaid :=
  OpenClaim.holds_of_wide 5 Try.f5 rfl rfl rfl rfl rfl rfl rfl ⟨rfl, rfl, rfl, rfl, rfl⟩ rfl rfl rfl rfl rfl (by kernel_rfl) Try.func5 (by kernel_rfl)
    (of_decide_eq_true (by kernel_rfl)) (by unfold Func.isWrapper; first | (rw [if_pos (by decide +kernel)]; kernel_rfl) | (rw [if_neg (by decide +kernel)]; exact ⟨rfl, rfl⟩))
    (fun os started H enc _ => by
      have lifted : ReturnsInHanded {} Try.checked os 5 .any (Rows.constraintShortestSpec.pre6 enc Try.prog Try.f5 Rows.constraintShortestRow.domain false)
          (Rows.constraintShortestSpec.post enc Try.prog Try.f5 Rows.constraintShortestRow.apart Rows.constraintShortestRow.fresh Rows.constraintShortestRow.handsOn Rows.constraintShortestRow.again) := by
        refine returnsInHanded_of_change (C := Try.checked) own started (by kernel_rfl) Try.func5
          (ChangeSpec.witness6 (enc := enc) (C := Try.checked) false ⟨#[], #[.slice none 0 0, .int .i64 0, .slice none 0 0], []⟩ 8 (by kernel_rfl) (by kernel_rfl) (by kernel_rfl) (by kernel_rfl)) ?_
        intro W base args ds gs before hval hW _ _
        exact law_calls (P := Try.prog) (ts := [22, 3, 48]) (tb := 4) (by rw [Try.params5]) rfl Try.underlying4 rfl (by kernel_rfl) laidOut (by kernel_rfl) (fun ds h => by
          match ds, h with
          | [_, _, _], _ => exact ⟨rfl, rfl, rfl⟩) (by simp [KC]) (fun xs h => constraintShortest_all xs h) hval hW
      exact lifted)

end Go.Proofs.Ytkfffaoopcnaoaa.Ab
