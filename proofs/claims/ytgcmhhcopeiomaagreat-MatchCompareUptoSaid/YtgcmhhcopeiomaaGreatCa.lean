/- The law MatchCompare holds. Conditions: none. -/
import Derived.Test.YtgcmhhcopeiomaaGreatKa
import Derived.Test.YtgcmhhcopeiomaaGreatOk
import Derived.Test.YtgcmhhcopeiomaaGreatWk
import Derived.Test.YtgcmhhcopeiomaaGreatGa
set_option maxRecDepth 100000
namespace Go.Proofs.YtgcmhhcopeiomaaGreat.Ab
open Go Go.ChangeShapes Go.WideShapes Go.ChangeAt Go.RowKit

theorem matchCompare_all (xs : List D) (h : TyAll Tryz.prog 1048576 [25, 25] xs) : Fn Tryz.prog 3 xs (.bool true) := by
  match xs, h with
  | [x0, x1], ⟨⟨c0, h0, e0⟩, ⟨c1, h1, e1⟩, _⟩ =>
    obtain ⟨y0, rfl, o0⟩ := tyof25 h0
    rw [row25] at e0
    have q0 : x0 = (SFeatures.e y0) := e0
    obtain ⟨y1, rfl, o1⟩ := tyof25 h1
    rw [row25] at e1
    have q1 : x1 = (SFeatures.e y1) := e1
    subst q0 q1
    exact m_law31_MatchCompare_ok ((fun o0 o1 => plain_MatchCompare (fb_of o0) (fb_of o1)) o0 o1)

set_option maxRecDepth 100000 in
/-- The law's row. -/
theorem matchCompare_holds : Rows.MatchCompareUptoSaid :=
  OpenClaim.holds_of_cond 3 Tryz.f3 rfl rfl rfl rfl rfl rfl rfl ⟨rfl, rfl, rfl, rfl, rfl⟩ rfl rfl rfl rfl rfl (by kernel_rfl) Tryz.func3 (by kernel_rfl)
    (of_decide_eq_true (by kernel_rfl)) (by unfold Func.isWrapper; first | (rw [if_pos (by decide +kernel)]; kernel_rfl) | (rw [if_neg (by decide +kernel)]; exact ⟨rfl, rfl⟩))
    (fun os started H enc _ F => by
      have lifted : ReturnsInHanded {} Tryz.checked os 3 .any ((Rows.OpenSpec.upto Rows.matchCompareSpec).pre6 enc Tryz.prog Tryz.f3 Rows.matchCompareUptoRow.domain false)
          (((Rows.OpenSpec.upto Rows.matchCompareSpec).at F).post enc Tryz.prog Tryz.f3 Rows.matchCompareUptoRow.apart Rows.matchCompareUptoRow.fresh Rows.matchCompareUptoRow.handsOn Rows.matchCompareUptoRow.again) := by
        refine returnsInHanded_of_cond (C := Tryz.checked) (k := Rows.uptoSmall) rfl own started (by kernel_rfl) Tryz.func3
          (OpenSpec.witness (enc := enc) (C := Tryz.checked) (k := Rows.uptoSmall) rfl false ⟨#[], #[.agg #[.int .i64 0, .slice none 0 0, .string ⟨#[]⟩, .slice none 0 0, .slice none 0 0, .slice none 0 0, .slice none 0 0, .slice none 0 0], .agg #[.int .i64 0, .slice none 0 0, .string ⟨#[]⟩, .slice none 0 0, .slice none 0 0, .slice none 0 0, .slice none 0 0, .slice none 0 0]], []⟩ 8 (by kernel_rfl) (by kernel_rfl) (by kernel_rfl) (x := ([.agg [.lit (.int .i64 0), .nil, .lit (.string []), .nil, .nil, .nil, .nil, .nil], .agg [.lit (.int .i64 0), .nil, .lit (.string []), .nil, .nil, .nil, .nil, .nil]], [], [])) (by kernel_rfl) rfl (by kernel_rfl)) ?_
        intro W base args ds gs before hval hW _ hk _
        have hk2 : Rows.uptoBulkAll ds ≤ 1048576 := bulk_left (of_decide_eq_true hk)
        exact law_callsS (P := Tryz.prog) smU (ts := [25, 25]) (tb := 4) (by rw [Tryz.params3]) rfl Tryz.underlying4 rfl (by kernel_rfl) laidOut (by kernel_rfl) (fun ds h => by
          match ds, h with
          | [_, _], _ => exact ⟨rfl, rfl, rfl⟩) (by simp [KC]) matchCompare_all hval hW (fun d hd => bulk_each hd hk2)
      exact lifted)

end Go.Proofs.YtgcmhhcopeiomaaGreat.Ab
