/- The law OddsSteps holds. Conditions: none. -/
import Derived.Test.YthopbnohgifehaaKa
import Derived.Test.YthopbnohgifehaaOf
import Derived.Test.YthopbnohgifehaaFi
set_option maxRecDepth 100000
namespace Go.Proofs.Ythopbnohgifehaa.Ab
open Go Go.ChangeShapes Go.WideShapes Go.ChangeAt Go.RowKit

theorem oddsSteps_all (xs : List D) (h : TyAll Try.prog [3, 51] xs) : Fn Try.prog 9 xs (.bool true) := by
  match xs, h with
  | [x0, x1], ⟨⟨c0, h0, e0⟩, ⟨c1, h1, e1⟩, _⟩ =>
    obtain ⟨y0, rfl, o0⟩ := tyof3 h0
    rw [row3] at e0
    have q0 : x0 = (.int .i64 y0) := e0
    obtain ⟨y1, rfl, o1⟩ := tyof51 h1
    rw [row51] at e1
    have q1 : x1 = (.int .u16 y1) := e1
    subst q0 q1
    exact m_law28_OddsSteps_ok ((fun o0 o1 => plain_OddsSteps (i64_ok o0) (u16_ok o1)) o0 o1)

set_option maxRecDepth 100000 in
/-- The law's row. -/
theorem oddsSteps_holds : Rows.OddsStepsSaid :=
  OpenClaim.holds_of_wide 9 Try.f9 rfl rfl rfl rfl rfl rfl rfl ⟨rfl, rfl, rfl, rfl, rfl⟩ rfl rfl rfl rfl rfl (by kernel_rfl) Try.func9 (by kernel_rfl)
    (of_decide_eq_true (by kernel_rfl)) (by unfold Func.isWrapper; first | (rw [if_pos (by decide +kernel)]; kernel_rfl) | (rw [if_neg (by decide +kernel)]; exact ⟨rfl, rfl⟩))
    (fun os started H enc _ => by
      have lifted : ReturnsInHanded {} Try.checked os 9 .any (Rows.oddsStepsSpec.pre6 enc Try.prog Try.f9 Rows.oddsStepsRow.domain false)
          (Rows.oddsStepsSpec.post enc Try.prog Try.f9 Rows.oddsStepsRow.apart Rows.oddsStepsRow.fresh Rows.oddsStepsRow.handsOn Rows.oddsStepsRow.again) := by
        refine returnsInHanded_of_change (C := Try.checked) own started (by kernel_rfl) Try.func9
          (ChangeSpec.witness6 (enc := enc) (C := Try.checked) false ⟨#[], #[.int .i64 0, .int .u16 0], []⟩ 8 (by kernel_rfl) (by kernel_rfl) (by kernel_rfl) (by kernel_rfl)) ?_
        intro W base args ds gs before hval hW _ _
        exact law_calls (P := Try.prog) (ts := [3, 51]) (tb := 4) (by rw [Try.params9]) rfl Try.underlying4 rfl (by kernel_rfl) laidOut (by kernel_rfl) (fun ds h => by
          match ds, h with
          | [_, _], _ => exact ⟨rfl, rfl, rfl⟩) (by simp [KC]) oddsSteps_all hval hW
      exact lifted)

end Go.Proofs.Ythopbnohgifehaa.Ab
