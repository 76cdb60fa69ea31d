/- The law RouteSolve holds. Conditions: none. -/
import Derived.Test.YthjinjinnklkgaaKa
import Derived.Test.YthjinjinnklkgaaRl
import Derived.Test.YthjinjinnklkgaaFg
set_option maxRecDepth 100000
namespace Go.Proofs.Ythjinjinnklkgaa.Ab
open Go Go.ChangeShapes Go.WideShapes Go.ChangeAt Go.RowKit

theorem routeSolve_all (xs : List D) (h : TyAll Try.prog [25] xs) : Fn Try.prog 4 xs (.bool true) := by
  match xs, h with
  | [x0], ⟨⟨c0, h0, e0⟩, _⟩ =>
    obtain ⟨y0, rfl, o0⟩ := tyof25 h0
    rw [row25] at e0
    have q0 : x0 = (SProblem.e y0) := e0
    subst q0
    exact m_law56_RouteSolve_ok (plain_RouteSolve2 o0)

set_option maxRecDepth 100000 in
/-- The law's row. -/
theorem routeSolve_holds : Rows.RouteSolveSaid :=
  OpenClaim.holds_of_wide 4 Try.f4 rfl rfl rfl rfl rfl rfl rfl ⟨rfl, rfl, rfl, rfl, rfl⟩ rfl rfl rfl rfl rfl (by kernel_rfl) Try.func4 (by kernel_rfl)
    (of_decide_eq_true (by kernel_rfl)) (by unfold Func.isWrapper; first | (rw [if_pos (by decide +kernel)]; kernel_rfl) | (rw [if_neg (by decide +kernel)]; exact ⟨rfl, rfl⟩))
    (fun os started H enc _ => by
      have lifted : ReturnsInHanded {} Try.checked os 4 .any (Rows.routeSolveSpec.pre6 enc Try.prog Try.f4 Rows.routeSolveRow.domain false)
          (Rows.routeSolveSpec.post enc Try.prog Try.f4 Rows.routeSolveRow.apart Rows.routeSolveRow.fresh Rows.routeSolveRow.handsOn Rows.routeSolveRow.again) := by
        refine returnsInHanded_of_change (C := Try.checked) own started (by kernel_rfl) Try.func4
          (ChangeSpec.witness6 (enc := enc) (C := Try.checked) false ⟨#[], #[.agg #[.slice none 0 0, .slice none 0 0, .int .i64 0]], []⟩ 8 (by kernel_rfl) (by kernel_rfl) (by kernel_rfl) (by kernel_rfl)) ?_
        intro W base args ds gs before hval hW _ _
        exact law_calls (P := Try.prog) (ts := [25]) (tb := 4) (by rw [Try.params4]) rfl Try.underlying4 rfl (by kernel_rfl) laidOut (by kernel_rfl) (fun ds h => by
          match ds, h with
          | [_], _ => exact ⟨rfl, rfl, rfl⟩) (by simp [KC]) routeSolve_all hval hW
      exact lifted)

end Go.Proofs.Ythjinjinnklkgaa.Ab
