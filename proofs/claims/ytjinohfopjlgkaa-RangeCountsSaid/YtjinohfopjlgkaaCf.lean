/- The law RangeCounts holds. Conditions: none. -/
import Derived.Test.YtjinohfopjlgkaaKa
import Derived.Test.YtjinohfopjlgkaaOk
import Derived.Test.YtjinohfopjlgkaaRr
import Derived.Test.YtjinohfopjlgkaaGf
set_option maxRecDepth 100000
namespace Go.Proofs.Ytjinohfopjlgkaa.Ab
open Go Go.ChangeShapes Go.WideShapes Go.ChangeAt Go.RowKit

theorem rangeCounts_all (xs : List D) (h : TyAll Try.prog 9223372036854775807 [41, 42] xs) : Fn Try.prog 8 xs (.bool true) := by
  match xs, h with
  | [x0, x1], ⟨⟨c0, h0, e0⟩, ⟨c1, h1, e1⟩, _⟩ =>
    obtain ⟨y0, rfl, o0⟩ := tyof41 h0
    rw [row41] at e0
    have q0 : x0 = (.sl (y0.map SOp.e)) := e0
    obtain ⟨y1, rfl, o1⟩ := tyof42 h1
    rw [row42] at e1
    have q1 : x1 = (A3.e y1) := e1
    subst q0 q1
    exact m_law42_RangeCounts_ok ((fun o0 o1 => plain_RangeCounts) o0 o1)

set_option maxRecDepth 100000 in
/-- The law's row. -/
theorem rangeCounts_holds : Rows.RangeCountsSaid :=
  OpenClaim.holds_of_wide 8 Try.f8 rfl rfl rfl rfl rfl rfl rfl ⟨rfl, rfl, rfl, rfl, rfl⟩ rfl rfl rfl rfl rfl (by kernel_rfl) Try.func8 (by kernel_rfl)
    (of_decide_eq_true (by kernel_rfl)) (by unfold Func.isWrapper; first | (rw [if_pos (by decide +kernel)]; kernel_rfl) | (rw [if_neg (by decide +kernel)]; exact ⟨rfl, rfl⟩))
    (fun os started H enc _ => by
      have lifted : ReturnsInHanded {} Try.checked os 8 .any (Rows.rangeCountsSpec.pre6 enc Try.prog Try.f8 Rows.rangeCountsRow.domain false)
          (Rows.rangeCountsSpec.post enc Try.prog Try.f8 Rows.rangeCountsRow.apart Rows.rangeCountsRow.fresh Rows.rangeCountsRow.handsOn Rows.rangeCountsRow.again) := by
        refine returnsInHanded_of_change (C := Try.checked) own started (by kernel_rfl) Try.func8
          (ChangeSpec.witness6 (enc := enc) (C := Try.checked) false ⟨#[], #[.slice none 0 0, .agg #[.int .i64 0, .int .i64 0, .int .i64 0]], []⟩ 8 (by kernel_rfl) (by kernel_rfl) (by kernel_rfl) (by kernel_rfl)) ?_
        intro W base args ds gs before hval hW _ _
        exact law_calls (P := Try.prog) (ts := [41, 42]) (tb := 4) (by rw [Try.params8]) rfl Try.underlying4 rfl (by kernel_rfl) laidOut (by kernel_rfl) (fun ds h => by
          match ds, h with
          | [_, _], _ => exact ⟨rfl, rfl, rfl⟩) (by simp [KC]) (fun xs h => rangeCounts_all xs h) hval hW
      exact lifted)

end Go.Proofs.Ytjinohfopjlgkaa.Ab
