/- The law on what is permitted: a step is done only if Kinds names it, and leads to another state unless it renews. Conditions: none. -/
import Derived.Test.YtciojlggdnmncaaLc
import Derived.Test.YtciojlggdnmncaaKb
set_option maxRecDepth 100000
namespace Go.Proofs.Ytciojlggdnmncaa.Ab
open Go Go.ChangeShapes Go.WideShapes Go.ChangeAt Go.RowKit


theorem permitted_all (xs : List D) (h : TyAll Try.prog [24, 44] xs) : Fn Try.prog 5 xs (.bool true) := by
  match xs, h with
  | [x, y], ⟨⟨c, hc, hx⟩, ⟨c', hc', hy⟩, _⟩ =>
    rw [row24] at hx; rw [row44] at hy
    obtain ⟨r, e, hr⟩ := req_of hc
    obtain ⟨s, e', hs⟩ := stp_of hc'
    have ex : x = r.e := hx.trans e
    have ey : y = s.e := hy.trans e'
    subst ex; subst ey
    exact requestPermitted_ok r s hr hs

set_option maxRecDepth 100000 in
/-- The law's row. -/
theorem requestPermitted_holds : Rows.RequestPermittedSaid :=
  OpenClaim.holds_of_wide 5 Try.f5 rfl rfl rfl rfl rfl rfl rfl ⟨rfl, rfl, rfl, rfl, rfl⟩ rfl rfl rfl rfl rfl (by kernel_rfl) Try.func5 (by kernel_rfl)
    (of_decide_eq_true (by kernel_rfl)) (by unfold Func.isWrapper; first | (rw [if_pos (by decide +kernel)]; kernel_rfl) | (rw [if_neg (by decide +kernel)]; exact ⟨rfl, rfl⟩))
    (fun os started H enc _ => by
      have lifted : ReturnsInHanded {} Try.checked os 5 .any (Rows.requestPermittedSpec.pre6 enc Try.prog Try.f5 Rows.requestPermittedRow.domain false)
          (Rows.requestPermittedSpec.post enc Try.prog Try.f5 Rows.requestPermittedRow.apart Rows.requestPermittedRow.fresh Rows.requestPermittedRow.handsOn Rows.requestPermittedRow.again) := by
        refine returnsInHanded_of_change (C := Try.checked) own started (by kernel_rfl) Try.func5
          (ChangeSpec.witness6 (enc := enc) (C := Try.checked) false ⟨#[], #[.agg #[.int .i64 0, .int .i64 0, .string ⟨#[]⟩, .int .i64 0, .int .i64 0, .string ⟨#[]⟩, .slice none 0 0, .int .i64 0, .int .i64 0], .agg #[.int .i64 0, .int .i64 0, .string ⟨#[]⟩, .int .i64 0]], []⟩ 8 (by kernel_rfl) (by kernel_rfl) (by kernel_rfl) (by kernel_rfl)) ?_
        intro W base args ds gs before hval hW _ _
        exact law_calls (P := Try.prog) (ts := [24, 44]) (tb := 4) (by rw [Try.params5]) rfl Try.underlying4 rfl (by kernel_rfl) laidOut (by kernel_rfl) (fun ds h => by
          match ds, h with
          | [_, _], _ => exact ⟨rfl, rfl, rfl⟩) permitted_all hval hW
      exact lifted)


end Go.Proofs.Ytciojlggdnmncaa.Ab
