/- The law on ends: a valid request reaches a final state by the steps that lead on. Conditions: none. -/
import Derived.Test.YtciojlggdnmncaaLd
import Derived.Test.YtciojlggdnmncaaKb
set_option maxRecDepth 100000
namespace Go.Proofs.Ytciojlggdnmncaa.Ab
open Go Go.ChangeShapes Go.WideShapes Go.ChangeAt Go.RowKit


theorem ends_all (xs : List D) (h : TyAll Try.prog [24] xs) : Fn Try.prog 6 xs (.bool true) := by
  match xs, h with
  | [x], ⟨⟨c, hc, hx⟩, _⟩ =>
    rw [row24] at hx
    obtain ⟨r, e, hr⟩ := req_of hc
    have ex : x = r.e := hx.trans e
    subst ex
    exact requestEnds_ok r hr

set_option maxRecDepth 100000 in
/-- The law's row. -/
theorem requestEnds_holds : Rows.RequestEndsSaid :=
  OpenClaim.holds_of_wide 6 Try.f6 rfl rfl rfl rfl rfl rfl rfl ⟨rfl, rfl, rfl, rfl, rfl⟩ rfl rfl rfl rfl rfl (by kernel_rfl) Try.func6 (by kernel_rfl)
    (of_decide_eq_true (by kernel_rfl)) (by unfold Func.isWrapper; first | (rw [if_pos (by decide +kernel)]; kernel_rfl) | (rw [if_neg (by decide +kernel)]; exact ⟨rfl, rfl⟩))
    (fun os started H enc _ => by
      have lifted : ReturnsInHanded {} Try.checked os 6 .any (Rows.requestEndsSpec.pre6 enc Try.prog Try.f6 Rows.requestEndsRow.domain false)
          (Rows.requestEndsSpec.post enc Try.prog Try.f6 Rows.requestEndsRow.apart Rows.requestEndsRow.fresh Rows.requestEndsRow.handsOn Rows.requestEndsRow.again) := by
        refine returnsInHanded_of_change (C := Try.checked) own started (by kernel_rfl) Try.func6
          (ChangeSpec.witness6 (enc := enc) (C := Try.checked) false ⟨#[], #[.agg #[.int .i64 0, .int .i64 0, .string ⟨#[]⟩, .int .i64 0, .int .i64 0, .string ⟨#[]⟩, .slice none 0 0, .int .i64 0, .int .i64 0]], []⟩ 8 (by kernel_rfl) (by kernel_rfl) (by kernel_rfl) (by kernel_rfl)) ?_
        intro W base args ds gs before hval hW _ _
        exact law_calls (P := Try.prog) (ts := [24]) (tb := 4) (by rw [Try.params6]) rfl Try.underlying4 rfl (by kernel_rfl) laidOut (by kernel_rfl) (fun ds h => by
          match ds, h with
          | [_], _ => exact ⟨rfl, rfl, rfl⟩) ends_all hval hW
      exact lifted)


end Go.Proofs.Ytciojlggdnmncaa.Ab
