/- The law on time: a step turns no time back, adds no more than one renewal, and keeps those who refused. Conditions: none. -/
import Derived.Test.YtciojlggdnmncaaLe
import Derived.Test.YtciojlggdnmncaaKb
set_option maxRecDepth 100000
namespace Go.Proofs.Ytciojlggdnmncaa.Ab
open Go Go.ChangeShapes Go.WideShapes Go.ChangeAt Go.RowKit


theorem time_all (xs : List D) (h : TyAll Try.prog [24, 25] xs) : Fn Try.prog 4 xs (.bool true) := by
  match xs, h with
  | [x, y], ⟨⟨c, hc, hx⟩, ⟨c', hc', hy⟩, _⟩ =>
    rw [row24] at hx
    obtain ⟨r, e, hr⟩ := req_of hc
    obtain ⟨l, rfl, hl, hls⟩ := hc'.inv_sl Try.underlying25
    obtain ⟨ss, es, hn, hss⟩ := stps_of hls
    have ex : x = r.e := hx.trans e
    have ey : y = .sl (ss.map Stp.e) := by rw [hy, es]; simp [isRow, Try.underlying25, mkD]
    subst ex; subst ey
    exact requestTime_ok r ss hr hss (by rw [hn]; exact small hl)

set_option maxRecDepth 100000 in
/-- The law's row. -/
theorem requestTime_holds : Rows.RequestTimeSaid :=
  OpenClaim.holds_of_wide 4 Try.f4 rfl rfl rfl rfl rfl rfl rfl ⟨rfl, rfl, rfl, rfl, rfl⟩ rfl rfl rfl rfl rfl (by kernel_rfl) Try.func4 (by kernel_rfl)
    (of_decide_eq_true (by kernel_rfl)) (by unfold Func.isWrapper; first | (rw [if_pos (by decide +kernel)]; kernel_rfl) | (rw [if_neg (by decide +kernel)]; exact ⟨rfl, rfl⟩))
    (fun os started H enc _ => by
      have lifted : ReturnsInHanded {} Try.checked os 4 .any (Rows.requestTimeSpec.pre6 enc Try.prog Try.f4 Rows.requestTimeRow.domain false)
          (Rows.requestTimeSpec.post enc Try.prog Try.f4 Rows.requestTimeRow.apart Rows.requestTimeRow.fresh Rows.requestTimeRow.handsOn Rows.requestTimeRow.again) := by
        refine returnsInHanded_of_change (C := Try.checked) own started (by kernel_rfl) Try.func4
          (ChangeSpec.witness6 (enc := enc) (C := Try.checked) false ⟨#[], #[.agg #[.int .i64 0, .int .i64 0, .string ⟨#[]⟩, .int .i64 0, .int .i64 0, .string ⟨#[]⟩, .slice none 0 0, .int .i64 0, .int .i64 0], .slice none 0 0], []⟩ 8 (by kernel_rfl) (by kernel_rfl) (by kernel_rfl) (by kernel_rfl)) ?_
        intro W base args ds gs before hval hW _ _
        exact law_calls (P := Try.prog) (ts := [24, 25]) (tb := 4) (by rw [Try.params4]) rfl Try.underlying4 rfl (by kernel_rfl) laidOut (by kernel_rfl) (fun ds h => by
          match ds, h with
          | [_, _], _ => exact ⟨rfl, rfl, rfl⟩) time_all hval hW
      exact lifted)


end Go.Proofs.Ytciojlggdnmncaa.Ab
