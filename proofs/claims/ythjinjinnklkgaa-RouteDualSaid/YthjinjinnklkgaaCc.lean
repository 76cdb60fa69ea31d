/- The law RouteDual holds. Conditions: none. -/
import Derived.Test.YthjinjinnklkgaaKa
import Derived.Test.YthjinjinnklkgaaRj
import Derived.Test.YthjinjinnklkgaaFf
set_option maxRecDepth 100000
namespace Go.Proofs.Ythjinjinnklkgaa.Ab
open Go Go.ChangeShapes Go.WideShapes Go.ChangeAt Go.RowKit

theorem routeDual_all (xs : List D) (h : TyAll Try.prog [25, 23, 27] xs) : Fn Try.prog 5 xs (.bool true) := by
  match xs, h with
  | [x0, x1, x2], ⟨⟨c0, h0, e0⟩, ⟨c1, h1, e1⟩, ⟨c2, h2, e2⟩, _⟩ =>
    obtain ⟨y0, rfl, o0⟩ := tyof25 h0
    rw [row25] at e0
    have q0 : x0 = (SProblem.e y0) := e0
    obtain ⟨y1, rfl, o1⟩ := tyof23 h1
    rw [row23] at e1
    have q1 : x1 = (.sl (y1.map D.i)) := e1
    obtain ⟨y2, rfl, o2⟩ := tyof27 h2
    rw [row27] at e2
    have q2 : x2 = (SPrices.e y2) := e2
    subst q0 q1 q2
    exact m_law56_RouteDual_ok (plain_RouteDual2 o0 o1 o2)

set_option maxRecDepth 100000 in
/-- The law's row. -/
theorem routeDual_holds : Rows.RouteDualSaid :=
  OpenClaim.holds_of_wide 5 Try.f5 rfl rfl rfl rfl rfl rfl rfl ⟨rfl, rfl, rfl, rfl, rfl⟩ rfl rfl rfl rfl rfl (by kernel_rfl) Try.func5 (by kernel_rfl)
    (of_decide_eq_true (by kernel_rfl)) (by unfold Func.isWrapper; first | (rw [if_pos (by decide +kernel)]; kernel_rfl) | (rw [if_neg (by decide +kernel)]; exact ⟨rfl, rfl⟩))
    (fun os started H enc _ => by
      have lifted : ReturnsInHanded {} Try.checked os 5 .any (Rows.routeDualSpec.pre6 enc Try.prog Try.f5 Rows.routeDualRow.domain false)
          (Rows.routeDualSpec.post enc Try.prog Try.f5 Rows.routeDualRow.apart Rows.routeDualRow.fresh Rows.routeDualRow.handsOn Rows.routeDualRow.again) := by
        refine returnsInHanded_of_change (C := Try.checked) own started (by kernel_rfl) Try.func5
          (ChangeSpec.witness6 (enc := enc) (C := Try.checked) false ⟨#[], #[.agg #[.slice none 0 0, .slice none 0 0, .int .i64 0], .slice none 0 0, .agg #[.slice none 0 0, .slice none 0 0]], []⟩ 8 (by kernel_rfl) (by kernel_rfl) (by kernel_rfl) (by kernel_rfl)) ?_
        intro W base args ds gs before hval hW _ _
        exact law_calls (P := Try.prog) (ts := [25, 23, 27]) (tb := 4) (by rw [Try.params5]) rfl Try.underlying4 rfl (by kernel_rfl) laidOut (by kernel_rfl) (fun ds h => by
          match ds, h with
          | [_, _, _], _ => exact ⟨rfl, rfl, rfl⟩) (by simp [KC]) routeDual_all hval hW
      exact lifted)

end Go.Proofs.Ythjinjinnklkgaa.Ab
