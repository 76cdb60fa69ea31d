/- The law MatchSymmetric holds. Conditions: none. -/
import Derived.Test.YtgcmhhcopeiomaaKa
import Derived.Test.YtgcmhhcopeiomaaOk
import Derived.Test.YtgcmhhcopeiomaaVi
import Derived.Test.YtgcmhhcopeiomaaGc
set_option maxRecDepth 100000
namespace Go.Proofs.Ytgcmhhcopeiomaa.Ab
open Go Go.ChangeShapes Go.WideShapes Go.ChangeAt Go.RowKit

theorem matchSymmetric_all (xs : List D) (h : TyAll Try.prog 1048576 [25, 25, 27] xs) : Fn Try.prog 3 xs (.bool true) := by
  match xs, h with
  | [x0, x1, x2], ⟨⟨c0, h0, e0⟩, ⟨c1, h1, e1⟩, ⟨c2, h2, e2⟩, _⟩ =>
    obtain ⟨y0, rfl, o0⟩ := tyof25 h0
    rw [row25] at e0
    have q0 : x0 = (SFeatures.e y0) := e0
    obtain ⟨y1, rfl, o1⟩ := tyof25 h1
    rw [row25] at e1
    have q1 : x1 = (SFeatures.e y1) := e1
    obtain ⟨y2, rfl, o2⟩ := tyof27 h2
    rw [row27] at e2
    have q2 : x2 = (A7.e y2) := e2
    subst q0 q1 q2
    exact m_law31_MatchSymmetric_ok ((fun o0 o1 _ => plain_MatchSymmetric (fb_of o0) (fb_of o1) _) o0 o1 o2)

set_option maxRecDepth 100000 in
/-- The law's row. -/
theorem matchSymmetric_holds : Rows.MatchSymmetricUptoSaid :=
  OpenClaim.holds_of_cond 3 Try.f3 rfl rfl rfl rfl rfl rfl rfl ⟨rfl, rfl, rfl, rfl, rfl⟩ rfl rfl rfl rfl rfl (by kernel_rfl) Try.func3 (by kernel_rfl)
    (of_decide_eq_true (by kernel_rfl)) (by unfold Func.isWrapper; first | (rw [if_pos (by decide +kernel)]; kernel_rfl) | (rw [if_neg (by decide +kernel)]; exact ⟨rfl, rfl⟩))
    (fun os started H enc _ F => by
      have lifted : ReturnsInHanded {} Try.checked os 3 .any ((Rows.OpenSpec.upto Rows.matchSymmetricSpec).pre6 enc Try.prog Try.f3 Rows.matchSymmetricUptoRow.domain false)
          (((Rows.OpenSpec.upto Rows.matchSymmetricSpec).at F).post enc Try.prog Try.f3 Rows.matchSymmetricUptoRow.apart Rows.matchSymmetricUptoRow.fresh Rows.matchSymmetricUptoRow.handsOn Rows.matchSymmetricUptoRow.again) := by
        refine returnsInHanded_of_cond (C := Try.checked) (k := Rows.uptoSmall) rfl own started (by kernel_rfl) Try.func3
          (OpenSpec.witness (enc := enc) (C := Try.checked) (k := Rows.uptoSmall) rfl false ⟨#[], #[.agg #[.int .i64 0, .slice none 0 0, .string ⟨#[]⟩, .slice none 0 0, .slice none 0 0, .slice none 0 0, .slice none 0 0, .slice none 0 0], .agg #[.int .i64 0, .slice none 0 0, .string ⟨#[]⟩, .slice none 0 0, .slice none 0 0, .slice none 0 0, .slice none 0 0, .slice none 0 0], .agg #[.int .i64 0, .int .i64 0, .int .i64 0, .int .i64 0, .int .i64 0, .int .i64 0, .int .i64 0]], []⟩ 8 (by kernel_rfl) (by kernel_rfl) (by kernel_rfl) (x := ([.agg [.lit (.int .i64 0), .nil, .lit (.string []), .nil, .nil, .nil, .nil, .nil], .agg [.lit (.int .i64 0), .nil, .lit (.string []), .nil, .nil, .nil, .nil, .nil], .agg [.lit (.int .i64 0), .lit (.int .i64 0), .lit (.int .i64 0), .lit (.int .i64 0), .lit (.int .i64 0), .lit (.int .i64 0), .lit (.int .i64 0)]], [], [])) (by kernel_rfl) rfl (by kernel_rfl)) ?_
        intro W base args ds gs before hval hW _ hk _
        have hk2 : Rows.uptoBulkAll ds ≤ 1048576 := bulk_left (of_decide_eq_true hk)
        exact law_callsS (P := Try.prog) smU (ts := [25, 25, 27]) (tb := 4) (by rw [Try.params3]) rfl Try.underlying4 rfl (by kernel_rfl) laidOut (by kernel_rfl) (fun ds h => by
          match ds, h with
          | [_, _, _], _ => exact ⟨rfl, rfl, rfl⟩) (by simp [KC]) matchSymmetric_all hval hW (fun d hd => bulk_each hd hk2)
      exact lifted)

end Go.Proofs.Ytgcmhhcopeiomaa.Ab
