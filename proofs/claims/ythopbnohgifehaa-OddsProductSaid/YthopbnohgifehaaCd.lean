/- The law OddsProduct holds. Conditions: none. -/
import Derived.Test.YthopbnohgifehaaKa
import Derived.Test.YthopbnohgifehaaOe
import Derived.Test.YthopbnohgifehaaFh
set_option maxRecDepth 100000
namespace Go.Proofs.Ythopbnohgifehaa.Ab
open Go Go.ChangeShapes Go.WideShapes Go.ChangeAt Go.RowKit

theorem oddsProduct_all (xs : List D) (h : TyAll Try.prog [22] xs) : Fn Try.prog 5 xs (.bool true) := by
  match xs, h with
  | [x0], ⟨⟨c0, h0, e0⟩, _⟩ =>
    obtain ⟨y0, rfl, o0⟩ := tyof22 h0
    rw [row22] at e0
    have q0 : x0 = (.sl (y0.map SRatio.e)) := e0
    subst q0
    exact m_law28_OddsProduct_ok ((fun o0 => plain_OddsProduct o0.1) o0)

set_option maxRecDepth 100000 in
/-- The law's row. -/
theorem oddsProduct_holds : Rows.OddsProductSaid :=
  OpenClaim.holds_of_wide 5 Try.f5 rfl rfl rfl rfl rfl rfl rfl ⟨rfl, rfl, rfl, rfl, rfl⟩ rfl rfl rfl rfl rfl (by kernel_rfl) Try.func5 (by kernel_rfl)
    (of_decide_eq_true (by kernel_rfl)) (by unfold Func.isWrapper; first | (rw [if_pos (by decide +kernel)]; kernel_rfl) | (rw [if_neg (by decide +kernel)]; exact ⟨rfl, rfl⟩))
    (fun os started H enc _ => by
      have lifted : ReturnsInHanded {} Try.checked os 5 .any (Rows.oddsProductSpec.pre6 enc Try.prog Try.f5 Rows.oddsProductRow.domain false)
          (Rows.oddsProductSpec.post enc Try.prog Try.f5 Rows.oddsProductRow.apart Rows.oddsProductRow.fresh Rows.oddsProductRow.handsOn Rows.oddsProductRow.again) := by
        refine returnsInHanded_of_change (C := Try.checked) own started (by kernel_rfl) Try.func5
          (ChangeSpec.witness6 (enc := enc) (C := Try.checked) false ⟨#[], #[.slice none 0 0], []⟩ 8 (by kernel_rfl) (by kernel_rfl) (by kernel_rfl) (by kernel_rfl)) ?_
        intro W base args ds gs before hval hW _ _
        exact law_calls (P := Try.prog) (ts := [22]) (tb := 4) (by rw [Try.params5]) rfl Try.underlying4 rfl (by kernel_rfl) laidOut (by kernel_rfl) (fun ds h => by
          match ds, h with
          | [_], _ => exact ⟨rfl, rfl, rfl⟩) (by simp [KC]) oddsProduct_all hval hW
      exact lifted)

end Go.Proofs.Ythopbnohgifehaa.Ab
