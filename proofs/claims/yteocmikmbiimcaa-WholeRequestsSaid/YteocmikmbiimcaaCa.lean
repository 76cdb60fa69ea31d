/- The law WholeRequests holds. Conditions: none. -/
import Derived.Test.YteocmikmbiimcaaKa
import Derived.Test.YteocmikmbiimcaaWc
import Derived.Test.YteocmikmbiimcaaFf
set_option maxRecDepth 100000
namespace Go.Proofs.Yteocmikmbiimcaa.Ab
open Go Go.ChangeShapes Go.WideShapes Go.ChangeAt Go.RowKit

theorem wholeRequests_all (xs : List D) (h : TyAll Try.prog [9, 22, 23] xs) : Fn Try.prog 3 xs (.bool true) := by
  match xs, h with
  | [x0, x1, x2], ⟨⟨c0, h0, e0⟩, ⟨c1, h1, e1⟩, ⟨c2, h2, e2⟩, _⟩ =>
    obtain ⟨y0, rfl, o0⟩ := tyof9 h0
    rw [row9] at e0
    have q0 : x0 = (.str y0) := e0
    obtain ⟨y1, rfl, o1⟩ := tyof22 h1
    rw [row22] at e1
    have q1 : x1 = (A2.e y1) := e1
    obtain ⟨y2, rfl, o2⟩ := tyof23 h2
    rw [row23] at e2
    have q2 : x2 = (.sl (y2.map SLender.e)) := e2
    subst q0 q1 q2
    exact m_bookplatetop_WholeRequests_ok ((fun o0 o1 o2 => plain_WholeRequests o0 ⟨o2.1, fun x hx => (o2.2 x hx).1⟩) o0 o1 o2)

set_option maxRecDepth 100000 in
/-- The law's row. -/
theorem wholeRequests_holds : Rows.WholeRequestsSaid :=
  OpenClaim.holds_of_wide 3 Try.f3 rfl rfl rfl rfl rfl rfl rfl ⟨rfl, rfl, rfl, rfl, rfl⟩ rfl rfl rfl rfl rfl (by kernel_rfl) Try.func3 (by kernel_rfl)
    (of_decide_eq_true (by kernel_rfl)) (by unfold Func.isWrapper; first | (rw [if_pos (by decide +kernel)]; kernel_rfl) | (rw [if_neg (by decide +kernel)]; exact ⟨rfl, rfl⟩))
    (fun os started H enc _ => by
      have lifted : ReturnsInHanded {} Try.checked os 3 .any (Rows.wholeRequestsSpec.pre6 enc Try.prog Try.f3 Rows.wholeRequestsRow.domain false)
          (Rows.wholeRequestsSpec.post enc Try.prog Try.f3 Rows.wholeRequestsRow.apart Rows.wholeRequestsRow.fresh Rows.wholeRequestsRow.handsOn Rows.wholeRequestsRow.again) := by
        refine returnsInHanded_of_change (C := Try.checked) own started (by kernel_rfl) Try.func3
          (ChangeSpec.witness6 (enc := enc) (C := Try.checked) false ⟨#[], #[.string ⟨#[]⟩, .agg #[.int .i64 0, .int .i64 0], .slice none 0 0], []⟩ 8 (by kernel_rfl) (by kernel_rfl) (by kernel_rfl) (by kernel_rfl)) ?_
        intro W base args ds gs before hval hW _ _
        exact law_calls (P := Try.prog) (ts := [9, 22, 23]) (tb := 4) (by rw [Try.params3]) rfl Try.underlying4 rfl (by kernel_rfl) laidOut (by kernel_rfl) (fun ds h => by
          match ds, h with
          | [_, _, _], _ => exact ⟨rfl, rfl, rfl⟩) (by simp [KC]) wholeRequests_all hval hW
      exact lifted)

end Go.Proofs.Yteocmikmbiimcaa.Ab
