/- The law on names: Kinds, Final, StateName, KindName and ParseKind say what the reference says. Conditions: none. -/
import Derived.Test.YtciojlggdnmncaaLa
import Derived.Test.YtciojlggdnmncaaKa
set_option maxRecDepth 100000
namespace Go.Proofs.Ytciojlggdnmncaa.Ab
open Go Go.ChangeShapes Go.WideShapes Go.ChangeAt Go.RowKit


theorem names_all (xs : List D) (h : TyAll Try.prog [3, 9] xs) : Fn Try.prog 7 xs (.bool true) := by
  match xs, h with
  | [x, y], ⟨⟨c, hc, hx⟩, ⟨c', hc', hy⟩, _⟩ =>
    obtain ⟨n, rfl, _⟩ := hc.inv_int Try.underlying3
    obtain ⟨s, rfl, _⟩ := hc'.inv_str Try.underlying9
    rw [one3] at hx; rw [one9] at hy; subst hx; subst hy
    exact requestNames_ok n s

set_option maxRecDepth 100000 in
/-- The law's row. -/
theorem requestNames_holds : Rows.RequestNamesSaid :=
  OpenClaim.holds_of_wide 7 Try.f7 rfl rfl rfl rfl rfl rfl rfl ⟨rfl, rfl, rfl, rfl, rfl⟩ rfl rfl rfl rfl rfl (by kernel_rfl) Try.func7 (by kernel_rfl)
    (of_decide_eq_true (by kernel_rfl)) (by unfold Func.isWrapper; first | (rw [if_pos (by decide +kernel)]; kernel_rfl) | (rw [if_neg (by decide +kernel)]; exact ⟨rfl, rfl⟩))
    (fun os started H enc _ => by
      have lifted : ReturnsInHanded {} Try.checked os 7 .any (Rows.requestNamesSpec.pre6 enc Try.prog Try.f7 Rows.requestNamesRow.domain false)
          (Rows.requestNamesSpec.post enc Try.prog Try.f7 Rows.requestNamesRow.apart Rows.requestNamesRow.fresh Rows.requestNamesRow.handsOn Rows.requestNamesRow.again) := by
        refine returnsInHanded_of_change (C := Try.checked) own started (by kernel_rfl) Try.func7
          (ChangeSpec.witness6 (enc := enc) (C := Try.checked) false ⟨#[], #[.int .i64 0, .string ⟨#[]⟩], []⟩ 8 (by kernel_rfl) (by kernel_rfl) (by kernel_rfl) (by kernel_rfl)) ?_
        intro W base args ds gs before hval hW _ _
        exact law_calls (P := Try.prog) (ts := [3, 9]) (tb := 4) (by rw [Try.params7]) rfl Try.underlying4 rfl (by kernel_rfl) laidOut (by kernel_rfl) (fun ds h => by
          match ds, h with
          | [_, _], _ => exact ⟨rfl, rfl, rfl⟩) names_all hval hW
      exact lifted)


end Go.Proofs.Ytciojlggdnmncaa.Ab
