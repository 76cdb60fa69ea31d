/- The law on runs: Run says what the reference says, is taking steps one by one, and two lists are one. Conditions: none. -/
import Derived.Test.YtciojlggdnmncaaLb
import Derived.Test.YtciojlggdnmncaaKb
set_option maxRecDepth 100000
namespace Go.Proofs.Ytciojlggdnmncaa.Ab
open Go Go.ChangeShapes Go.WideShapes Go.ChangeAt Go.RowKit


theorem run_all (xs : List D) (h : TyAll Try.prog [24, 25, 5] xs) : Fn Try.prog 3 xs (.bool true) := by
  match xs, h with
  | [x, y, z], ⟨⟨c, hc, hx⟩, ⟨c', hc', hy⟩, ⟨c2, hc2, hz⟩, _⟩ =>
    rw [row24] at hx
    obtain ⟨r, e, hr⟩ := req_of hc
    obtain ⟨l, rfl, hl, hls⟩ := hc'.inv_sl Try.underlying25
    obtain ⟨ss, es, hn, hss⟩ := stps_of hls
    obtain ⟨n, rfl, hw⟩ := hc2.inv_int Try.underlying5
    have ex : x = r.e := hx.trans e
    have ey : y = .sl (ss.map Stp.e) := by rw [hy, es]; simp [isRow, Try.underlying25, mkD]
    have ez : z = .int .u8 n := by rw [hz]; simp [isRow, Try.underlying5, mkD]
    subst ex; subst ey; subst ez
    exact requestRun_ok r ss n hr hss (by rw [hn]; exact small hl) (u8_of hw)

set_option maxRecDepth 100000 in
/-- The law's row. -/
theorem requestRun_holds : Rows.RequestRunSaid :=
  OpenClaim.holds_of_wide 3 Try.f3 rfl rfl rfl rfl rfl rfl rfl ⟨rfl, rfl, rfl, rfl, rfl⟩ rfl rfl rfl rfl rfl (by kernel_rfl) Try.func3 (by kernel_rfl)
    (of_decide_eq_true (by kernel_rfl)) (by unfold Func.isWrapper; first | (rw [if_pos (by decide +kernel)]; kernel_rfl) | (rw [if_neg (by decide +kernel)]; exact ⟨rfl, rfl⟩))
    (fun os started H enc _ => by
      have lifted : ReturnsInHanded {} Try.checked os 3 .any (Rows.requestRunSpec.pre6 enc Try.prog Try.f3 Rows.requestRunRow.domain false)
          (Rows.requestRunSpec.post enc Try.prog Try.f3 Rows.requestRunRow.apart Rows.requestRunRow.fresh Rows.requestRunRow.handsOn Rows.requestRunRow.again) := by
        refine returnsInHanded_of_change (C := Try.checked) own started (by kernel_rfl) Try.func3
          (ChangeSpec.witness6 (enc := enc) (C := Try.checked) false ⟨#[], #[.agg #[.int .i64 0, .int .i64 0, .string ⟨#[]⟩, .int .i64 0, .int .i64 0, .string ⟨#[]⟩, .slice none 0 0, .int .i64 0, .int .i64 0], .slice none 0 0, .int .u8 0], []⟩ 8 (by kernel_rfl) (by kernel_rfl) (by kernel_rfl) (by kernel_rfl)) ?_
        intro W base args ds gs before hval hW _ _
        exact law_calls (P := Try.prog) (ts := [24, 25, 5]) (tb := 4) (by rw [Try.params3]) rfl Try.underlying4 rfl (by kernel_rfl) laidOut (by kernel_rfl) (fun ds h => by
          match ds, h with
          | [_, _, _], _ => exact ⟨rfl, rfl, rfl⟩) run_all hval hW
      exact lifted)


end Go.Proofs.Ytciojlggdnmncaa.Ab
