/- The law RangeOf holds. Conditions: none. -/
import Derived.Test.YtjinohfopjlgkaaKa
import Derived.Test.YtjinohfopjlgkaaOk
import Derived.Test.YtjinohfopjlgkaaRq
import Derived.Test.YtjinohfopjlgkaaGb
set_option maxRecDepth 100000
namespace Go.Proofs.Ytjinohfopjlgkaa.Ab
open Go Go.ChangeShapes Go.WideShapes Go.ChangeAt Go.RowKit

theorem rangeOf_all (xs : List D) (h : TyAll Try.prog 9223372036854775807 [24] xs) : Fn Try.prog 4 xs (.bool true) := by
  match xs, h with
  | [x0], ⟨⟨c0, h0, e0⟩, _⟩ =>
    obtain ⟨y0, rfl, o0⟩ := tyof24 h0
    rw [row24] at e0
    have q0 : x0 = (.sl (y0.map SItem.e)) := e0
    subst q0
    exact m_law42_RangeOf_ok ((fun o0 => plain_RangeOf) o0)

set_option maxRecDepth 100000 in
/-- The law's row. -/
theorem rangeOf_holds : Rows.RangeOfSaid :=
  OpenClaim.holds_of_wide 4 Try.f4 rfl rfl rfl rfl rfl rfl rfl ⟨rfl, rfl, rfl, rfl, rfl⟩ rfl rfl rfl rfl rfl (by kernel_rfl) Try.func4 (by kernel_rfl)
    (of_decide_eq_true (by kernel_rfl)) (by unfold Func.isWrapper; first | (rw [if_pos (by decide +kernel)]; kernel_rfl) | (rw [if_neg (by decide +kernel)]; exact ⟨rfl, rfl⟩))
    (fun os started H enc _ => by
      have lifted : ReturnsInHanded {} Try.checked os 4 .any (Rows.rangeOfSpec.pre6 enc Try.prog Try.f4 Rows.rangeOfRow.domain false)
          (Rows.rangeOfSpec.post enc Try.prog Try.f4 Rows.rangeOfRow.apart Rows.rangeOfRow.fresh Rows.rangeOfRow.handsOn Rows.rangeOfRow.again) := by
        refine returnsInHanded_of_change (C := Try.checked) own started (by kernel_rfl) Try.func4
          (ChangeSpec.witness6 (enc := enc) (C := Try.checked) false ⟨#[], #[.slice none 0 0], []⟩ 8 (by kernel_rfl) (by kernel_rfl) (by kernel_rfl) (by kernel_rfl)) ?_
        intro W base args ds gs before hval hW _ _
        exact law_calls (P := Try.prog) (ts := [24]) (tb := 4) (by rw [Try.params4]) rfl Try.underlying4 rfl (by kernel_rfl) laidOut (by kernel_rfl) (fun ds h => by
          match ds, h with
          | [_], _ => exact ⟨rfl, rfl, rfl⟩) (by simp [KC]) (fun xs h => rangeOf_all xs h) hval hW
      exact lifted)

end Go.Proofs.Ytjinohfopjlgkaa.Ab
