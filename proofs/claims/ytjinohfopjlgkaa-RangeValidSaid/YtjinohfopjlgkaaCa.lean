/- The law RangeValid holds. Conditions: none. -/
import Derived.Test.YtjinohfopjlgkaaKa
import Derived.Test.YtjinohfopjlgkaaOk
import Derived.Test.YtjinohfopjlgkaaRj
import Derived.Test.YtjinohfopjlgkaaGa
set_option maxRecDepth 100000
namespace Go.Proofs.Ytjinohfopjlgkaa.Ab
open Go Go.ChangeShapes Go.WideShapes Go.ChangeAt Go.RowKit

theorem rangeValid_all (xs : List D) (h : TyAll Try.prog 9223372036854775807 [22] xs) : Fn Try.prog 3 xs (.bool true) := by
  match xs, h with
  | [x0], ⟨⟨c0, h0, e0⟩, _⟩ =>
    obtain ⟨y0, rfl, o0⟩ := tyof22 h0
    rw [row22] at e0
    have q0 : x0 = (.sl (y0.map (esl SItem.e))) := e0
    subst q0
    exact m_law42_RangeValid_ok ((fun o0 => plain_RangeValid o0.1) o0)

set_option maxRecDepth 100000 in
/-- The law's row. -/
theorem rangeValid_holds : Rows.RangeValidSaid :=
  OpenClaim.holds_of_wide 3 Try.f3 rfl rfl rfl rfl rfl rfl rfl ⟨rfl, rfl, rfl, rfl, rfl⟩ rfl rfl rfl rfl rfl (by kernel_rfl) Try.func3 (by kernel_rfl)
    (of_decide_eq_true (by kernel_rfl)) (by unfold Func.isWrapper; first | (rw [if_pos (by decide +kernel)]; kernel_rfl) | (rw [if_neg (by decide +kernel)]; exact ⟨rfl, rfl⟩))
    (fun os started H enc _ => by
      have lifted : ReturnsInHanded {} Try.checked os 3 .any (Rows.rangeValidSpec.pre6 enc Try.prog Try.f3 Rows.rangeValidRow.domain false)
          (Rows.rangeValidSpec.post enc Try.prog Try.f3 Rows.rangeValidRow.apart Rows.rangeValidRow.fresh Rows.rangeValidRow.handsOn Rows.rangeValidRow.again) := by
        refine returnsInHanded_of_change (C := Try.checked) own started (by kernel_rfl) Try.func3
          (ChangeSpec.witness6 (enc := enc) (C := Try.checked) false ⟨#[], #[.slice none 0 0], []⟩ 8 (by kernel_rfl) (by kernel_rfl) (by kernel_rfl) (by kernel_rfl)) ?_
        intro W base args ds gs before hval hW _ _
        exact law_calls (P := Try.prog) (ts := [22]) (tb := 4) (by rw [Try.params3]) rfl Try.underlying4 rfl (by kernel_rfl) laidOut (by kernel_rfl) (fun ds h => by
          match ds, h with
          | [_], _ => exact ⟨rfl, rfl, rfl⟩) (by simp [KC]) (fun xs h => rangeValid_all xs h) hval hW
      exact lifted)

end Go.Proofs.Ytjinohfopjlgkaa.Ab
