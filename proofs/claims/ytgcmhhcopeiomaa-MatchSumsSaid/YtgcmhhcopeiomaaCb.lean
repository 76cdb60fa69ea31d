/- The law MatchSums holds. Conditions: none. -/
import Derived.Test.YtgcmhhcopeiomaaKa
import Derived.Test.YtgcmhhcopeiomaaOk
import Derived.Test.YtgcmhhcopeiomaaVf
import Derived.Test.YtgcmhhcopeiomaaGb
set_option maxRecDepth 100000
namespace Go.Proofs.Ytgcmhhcopeiomaa.Ab
open Go Go.ChangeShapes Go.WideShapes Go.ChangeAt Go.RowKit

theorem matchSums_all (xs : List D) (h : TyAll Try.prog 9223372036854775807 [49, 27] xs) : Fn Try.prog 4 xs (.bool true) := by
  match xs, h with
  | [x0, x1], ⟨⟨c0, h0, e0⟩, ⟨c1, h1, e1⟩, _⟩ =>
    obtain ⟨y0, rfl, o0⟩ := tyof49 h0
    rw [row49] at e0
    have q0 : x0 = (A72.e y0) := e0
    obtain ⟨y1, rfl, o1⟩ := tyof27 h1
    rw [row27] at e1
    have q1 : x1 = (A7.e y1) := e1
    subst q0 q1
    exact m_law31_MatchSums_ok ((fun _ _ => plain_MatchSums _ _) o0 o1)

set_option maxRecDepth 100000 in
/-- The law's row. -/
theorem matchSums_holds : Rows.MatchSumsSaid :=
  OpenClaim.holds_of_wide 4 Try.f4 rfl rfl rfl rfl rfl rfl rfl ⟨rfl, rfl, rfl, rfl, rfl⟩ rfl rfl rfl rfl rfl (by kernel_rfl) Try.func4 (by kernel_rfl)
    (of_decide_eq_true (by kernel_rfl)) (by unfold Func.isWrapper; first | (rw [if_pos (by decide +kernel)]; kernel_rfl) | (rw [if_neg (by decide +kernel)]; exact ⟨rfl, rfl⟩))
    (fun os started H enc _ => by
      have lifted : ReturnsInHanded {} Try.checked os 4 .any (Rows.matchSumsSpec.pre6 enc Try.prog Try.f4 Rows.matchSumsRow.domain false)
          (Rows.matchSumsSpec.post enc Try.prog Try.f4 Rows.matchSumsRow.apart Rows.matchSumsRow.fresh Rows.matchSumsRow.handsOn Rows.matchSumsRow.again) := by
        refine returnsInHanded_of_change (C := Try.checked) own started (by kernel_rfl) Try.func4
          (ChangeSpec.witness6 (enc := enc) (C := Try.checked) false ⟨#[], #[.agg #[.int .i64 0, .int .i64 0, .int .i64 0, .int .i64 0, .int .i64 0, .int .i64 0, .int .i64 0, .int .i64 0, .int .i64 0, .int .i64 0, .int .i64 0, .int .i64 0, .int .i64 0, .int .i64 0, .int .i64 0, .int .i64 0, .int .i64 0, .int .i64 0, .int .i64 0, .int .i64 0, .int .i64 0, .int .i64 0, .int .i64 0, .int .i64 0, .int .i64 0, .int .i64 0, .int .i64 0, .int .i64 0, .int .i64 0, .int .i64 0, .int .i64 0, .int .i64 0, .int .i64 0, .int .i64 0, .int .i64 0, .int .i64 0, .int .i64 0, .int .i64 0, .int .i64 0, .int .i64 0, .int .i64 0, .int .i64 0], .agg #[.int .i64 0, .int .i64 0, .int .i64 0, .int .i64 0, .int .i64 0, .int .i64 0, .int .i64 0]], []⟩ 8 (by kernel_rfl) (by kernel_rfl) (by kernel_rfl) (by kernel_rfl)) ?_
        intro W base args ds gs before hval hW _ _
        exact law_calls (P := Try.prog) (ts := [49, 27]) (tb := 4) (by rw [Try.params4]) rfl Try.underlying4 rfl (by kernel_rfl) laidOut (by kernel_rfl) (fun ds h => by
          match ds, h with
          | [_, _], _ => exact ⟨rfl, rfl, rfl⟩) (by simp [KC]) (fun xs h => matchSums_all xs h) hval hW
      exact lifted)

end Go.Proofs.Ytgcmhhcopeiomaa.Ab
