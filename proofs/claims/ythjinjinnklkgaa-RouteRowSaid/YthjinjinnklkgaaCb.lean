/- The law RouteRow holds. Conditions: none. -/
import Derived.Test.YthjinjinnklkgaaKa
import Derived.Test.YthjinjinnklkgaaPh
import Derived.Test.YthjinjinnklkgaaFf
set_option maxRecDepth 100000
namespace Go.Proofs.Ythjinjinnklkgaa.Ab
open Go Go.ChangeShapes Go.WideShapes Go.ChangeAt Go.RowKit

theorem routeRow_all (xs : List D) (h : TyAll Try.prog [9, 51, 52] xs) : Fn Try.prog 7 xs (.bool true) := by
  match xs, h with
  | [x0, x1, x2], ⟨⟨c0, h0, e0⟩, ⟨c1, h1, e1⟩, ⟨c2, h2, e2⟩, _⟩ =>
    obtain ⟨y0, rfl, o0⟩ := tyof9 h0
    rw [row9] at e0
    have q0 : x0 = (.str y0) := e0
    obtain ⟨y1, rfl, o1⟩ := tyof51 h1
    rw [row51] at e1
    have q1 : x1 = (A2.e y1) := e1
    obtain ⟨y2, rfl, o2⟩ := tyof52 h2
    rw [row52] at e2
    have q2 : x2 = (.sl (y2.map SLender.e)) := e2
    subst q0 q1 q2
    exact m_law56_RouteRow_ok (routeRow_plain2 o0 o1 o2)

set_option maxRecDepth 100000 in
/-- The law's row. -/
theorem routeRow_holds : Rows.RouteRowSaid :=
  OpenClaim.holds_of_wide 7 Try.f7 rfl rfl rfl rfl rfl rfl rfl ⟨rfl, rfl, rfl, rfl, rfl⟩ rfl rfl rfl rfl rfl (by kernel_rfl) Try.func7 (by kernel_rfl)
    (of_decide_eq_true (by kernel_rfl)) (by unfold Func.isWrapper; first | (rw [if_pos (by decide +kernel)]; kernel_rfl) | (rw [if_neg (by decide +kernel)]; exact ⟨rfl, rfl⟩))
    (fun os started H enc _ => by
      have lifted : ReturnsInHanded {} Try.checked os 7 .any (Rows.routeRowSpec.pre6 enc Try.prog Try.f7 Rows.routeRowRow.domain false)
          (Rows.routeRowSpec.post enc Try.prog Try.f7 Rows.routeRowRow.apart Rows.routeRowRow.fresh Rows.routeRowRow.handsOn Rows.routeRowRow.again) := by
        refine returnsInHanded_of_change (C := Try.checked) own started (by kernel_rfl) Try.func7
          (ChangeSpec.witness6 (enc := enc) (C := Try.checked) false ⟨#[], #[.string ⟨#[]⟩, .agg #[.int .i64 0, .int .i64 0], .slice none 0 0], []⟩ 8 (by kernel_rfl) (by kernel_rfl) (by kernel_rfl) (by kernel_rfl)) ?_
        intro W base args ds gs before hval hW _ _
        exact law_calls (P := Try.prog) (ts := [9, 51, 52]) (tb := 4) (by rw [Try.params7]) rfl Try.underlying4 rfl (by kernel_rfl) laidOut (by kernel_rfl) (fun ds h => by
          match ds, h with
          | [_, _, _], _ => exact ⟨rfl, rfl, rfl⟩) routeRow_all hval hW
      exact lifted)

end Go.Proofs.Ythjinjinnklkgaa.Ab
