/- The law MatchModels holds. Conditions: none. -/
import Derived.Test.YtgcmhhcopeiomaaKa
import Derived.Test.YtgcmhhcopeiomaaOk
import Derived.Test.YtgcmhhcopeiomaaVe
import Derived.Test.YtgcmhhcopeiomaaGa
set_option maxRecDepth 100000
namespace Go.Proofs.Ytgcmhhcopeiomaa.Ab
open Go Go.ChangeShapes Go.WideShapes Go.ChangeAt Go.RowKit

theorem matchModels_all (xs : List D) (h : TyAll Try.prog 9223372036854775807 [49] xs) : Fn Try.prog 5 xs (.bool true) := by
  match xs, h with
  | [x0], ⟨⟨c0, h0, e0⟩, _⟩ =>
    obtain ⟨y0, rfl, o0⟩ := tyof49 h0
    rw [row49] at e0
    have q0 : x0 = (A72.e y0) := e0
    subst q0
    exact m_law31_MatchModels_ok ((fun _ => plain_MatchModels _) o0)

set_option maxRecDepth 100000 in
/-- The law's row. -/
theorem matchModels_holds : Rows.MatchModelsSaid :=
  OpenClaim.holds_of_wide 5 Try.f5 rfl rfl rfl rfl rfl rfl rfl ⟨rfl, rfl, rfl, rfl, rfl⟩ rfl rfl rfl rfl rfl (by kernel_rfl) Try.func5 (by kernel_rfl)
    (of_decide_eq_true (by kernel_rfl)) (by unfold Func.isWrapper; first | (rw [if_pos (by decide +kernel)]; kernel_rfl) | (rw [if_neg (by decide +kernel)]; exact ⟨rfl, rfl⟩))
    (fun os started H enc _ => by
      have lifted : ReturnsInHanded {} Try.checked os 5 .any (Rows.matchModelsSpec.pre6 enc Try.prog Try.f5 Rows.matchModelsRow.domain false)
          (Rows.matchModelsSpec.post enc Try.prog Try.f5 Rows.matchModelsRow.apart Rows.matchModelsRow.fresh Rows.matchModelsRow.handsOn Rows.matchModelsRow.again) := by
        refine returnsInHanded_of_change (C := Try.checked) own started (by kernel_rfl) Try.func5
          (ChangeSpec.witness6 (enc := enc) (C := Try.checked) false ⟨#[], #[.agg #[.int .i64 0, .int .i64 0, .int .i64 0, .int .i64 0, .int .i64 0, .int .i64 0, .int .i64 0, .int .i64 0, .int .i64 0, .int .i64 0, .int .i64 0, .int .i64 0, .int .i64 0, .int .i64 0, .int .i64 0, .int .i64 0, .int .i64 0, .int .i64 0, .int .i64 0, .int .i64 0, .int .i64 0, .int .i64 0, .int .i64 0, .int .i64 0, .int .i64 0, .int .i64 0, .int .i64 0, .int .i64 0, .int .i64 0, .int .i64 0, .int .i64 0, .int .i64 0, .int .i64 0, .int .i64 0, .int .i64 0, .int .i64 0, .int .i64 0, .int .i64 0, .int .i64 0, .int .i64 0, .int .i64 0, .int .i64 0]], []⟩ 8 (by kernel_rfl) (by kernel_rfl) (by kernel_rfl) (by kernel_rfl)) ?_
        intro W base args ds gs before hval hW _ _
        exact law_calls (P := Try.prog) (ts := [49]) (tb := 4) (by rw [Try.params5]) rfl Try.underlying4 rfl (by kernel_rfl) laidOut (by kernel_rfl) (fun ds h => by
          match ds, h with
          | [_], _ => exact ⟨rfl, rfl, rfl⟩) (by simp [KC]) (fun xs h => matchModels_all xs h) hval hW
      exact lifted)

end Go.Proofs.Ytgcmhhcopeiomaa.Ab
