/- The law MatchAll holds. Conditions: none. -/
import Derived.Test.YtgcmhhcopeiomaaGreatKa
import Derived.Test.YtgcmhhcopeiomaaGreatOk
import Derived.Test.YtgcmhhcopeiomaaGreatWl
import Derived.Test.YtgcmhhcopeiomaaGreatGb
set_option maxRecDepth 100000
namespace Go.Proofs.YtgcmhhcopeiomaaGreat.Ab
open Go Go.ChangeShapes Go.WideShapes Go.ChangeAt Go.RowKit

theorem matchAll_all (xs : List D) (h : TyAll Tryz.prog 1048576 [43, 44, 45] xs) : Fn Tryz.prog 4 xs (.bool true) := by
  match xs, h with
  | [x0, x1, x2], ⟨⟨c0, h0, e0⟩, ⟨c1, h1, e1⟩, ⟨c2, h2, e2⟩, _⟩ =>
    obtain ⟨y0, rfl, o0⟩ := tyof43 h0
    rw [row43] at e0
    have q0 : x0 = (A72.e y0) := e0
    obtain ⟨y1, rfl, o1⟩ := tyof44 h1
    rw [row44] at e1
    have q1 : x1 = (.sl (y1.map SFeatures.e)) := e1
    obtain ⟨y2, rfl, o2⟩ := tyof45 h2
    rw [row45] at e2
    have q2 : x2 = (.sl (y2.map SPair.e)) := e2
    subst q0 q1 q2
    exact m_law31_MatchAll_ok ((fun _ o1 _ => plain_MatchAll (fun f hf => fb_of (o1.2 f hf))) o0 o1 o2)

set_option maxRecDepth 100000 in
/-- The law's row. -/
theorem matchAll_holds : Rows.MatchAllUptoSaid :=
  OpenClaim.holds_of_cond 4 Tryz.f4 rfl rfl rfl rfl rfl rfl rfl ⟨rfl, rfl, rfl, rfl, rfl⟩ rfl rfl rfl rfl rfl (by kernel_rfl) Tryz.func4 (by kernel_rfl)
    (of_decide_eq_true (by kernel_rfl)) (by unfold Func.isWrapper; first | (rw [if_pos (by decide +kernel)]; kernel_rfl) | (rw [if_neg (by decide +kernel)]; exact ⟨rfl, rfl⟩))
    (fun os started H enc _ F => by
      have lifted : ReturnsInHanded {} Tryz.checked os 4 .any ((Rows.OpenSpec.upto Rows.matchAllSpec).pre6 enc Tryz.prog Tryz.f4 Rows.matchAllUptoRow.domain false)
          (((Rows.OpenSpec.upto Rows.matchAllSpec).at F).post enc Tryz.prog Tryz.f4 Rows.matchAllUptoRow.apart Rows.matchAllUptoRow.fresh Rows.matchAllUptoRow.handsOn Rows.matchAllUptoRow.again) := by
        refine returnsInHanded_of_cond (C := Tryz.checked) (k := Rows.uptoSmall) rfl own started (by kernel_rfl) Tryz.func4
          (OpenSpec.witness (enc := enc) (C := Tryz.checked) (k := Rows.uptoSmall) rfl false ⟨#[], #[.agg #[.int .i64 0, .int .i64 0, .int .i64 0, .int .i64 0, .int .i64 0, .int .i64 0, .int .i64 0, .int .i64 0, .int .i64 0, .int .i64 0, .int .i64 0, .int .i64 0, .int .i64 0, .int .i64 0, .int .i64 0, .int .i64 0, .int .i64 0, .int .i64 0, .int .i64 0, .int .i64 0, .int .i64 0, .int .i64 0, .int .i64 0, .int .i64 0, .int .i64 0, .int .i64 0, .int .i64 0, .int .i64 0, .int .i64 0, .int .i64 0, .int .i64 0, .int .i64 0, .int .i64 0, .int .i64 0, .int .i64 0, .int .i64 0, .int .i64 0, .int .i64 0, .int .i64 0, .int .i64 0, .int .i64 0, .int .i64 0], .slice none 0 0, .slice none 0 0], []⟩ 8 (by kernel_rfl) (by kernel_rfl) (by kernel_rfl) (x := ([.agg [.agg [.agg [.lit (.int .i64 0), .lit (.int .i64 0)], .agg [.lit (.int .i64 0), .lit (.int .i64 0)], .agg [.lit (.int .i64 0), .lit (.int .i64 0)]], .agg [.agg [.lit (.int .i64 0), .lit (.int .i64 0)], .agg [.lit (.int .i64 0), .lit (.int .i64 0)], .agg [.lit (.int .i64 0), .lit (.int .i64 0)]], .agg [.agg [.lit (.int .i64 0), .lit (.int .i64 0)], .agg [.lit (.int .i64 0), .lit (.int .i64 0)], .agg [.lit (.int .i64 0), .lit (.int .i64 0)]], .agg [.agg [.lit (.int .i64 0), .lit (.int .i64 0)], .agg [.lit (.int .i64 0), .lit (.int .i64 0)], .agg [.lit (.int .i64 0), .lit (.int .i64 0)]], .agg [.agg [.lit (.int .i64 0), .lit (.int .i64 0)], .agg [.lit (.int .i64 0), .lit (.int .i64 0)], .agg [.lit (.int .i64 0), .lit (.int .i64 0)]], .agg [.agg [.lit (.int .i64 0), .lit (.int .i64 0)], .agg [.lit (.int .i64 0), .lit (.int .i64 0)], .agg [.lit (.int .i64 0), .lit (.int .i64 0)]], .agg [.agg [.lit (.int .i64 0), .lit (.int .i64 0)], .agg [.lit (.int .i64 0), .lit (.int .i64 0)], .agg [.lit (.int .i64 0), .lit (.int .i64 0)]]], .nil, .nil], [], [])) (by kernel_rfl) rfl (by kernel_rfl)) ?_
        intro W base args ds gs before hval hW _ hk _
        have hk2 : Rows.uptoBulkAll ds ≤ 1048576 := bulk_left (of_decide_eq_true hk)
        exact law_callsS (P := Tryz.prog) smU (ts := [43, 44, 45]) (tb := 4) (by rw [Tryz.params4]) rfl Tryz.underlying4 rfl (by kernel_rfl) laidOut (by kernel_rfl) (fun ds h => by
          match ds, h with
          | [_, _, _], _ => exact ⟨rfl, rfl, rfl⟩) (by simp [KC]) matchAll_all hval hW (fun d hd => bulk_each hd hk2)
      exact lifted)

end Go.Proofs.YtgcmhhcopeiomaaGreat.Ab
