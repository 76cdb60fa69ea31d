/- The law MatchOutcomes holds. Conditions: none. -/
import Derived.Test.YtgcmhhcopeiomaaGreatDoorKa
import Derived.Test.YtgcmhhcopeiomaaGreatDoorLa
import Derived.Test.YtgcmhhcopeiomaaGreatDoorTie
import Derived.Test.YtgcmhhcopeiomaaGreatDoorCards
import Derived.SevenTiedAt
import Derived.Test.YtgcmhhcopeiomaaGreatDoorOk
import Derived.Test.YtgcmhhcopeiomaaGreatDoorDvk
import Derived.Test.YtgcmhhcopeiomaaGreatDoorGa
set_option maxRecDepth 100000
namespace Go.Proofs.YtgcmhhcopeiomaaGreatDoor.Ab
open Go Go.ChangeShapes Go.WideShapes Go.ChangeAt Go.RowKit

theorem matchOutcomes_all (xs : List D) (h : TyAll Tryz.prog 9223372036854775807 [26, 28] xs) : Fn Tryz.prog 3 xs (.bool true) := by
  match xs, h with
  | [x0, x1], ⟨⟨c0, h0, e0⟩, ⟨c1, h1, e1⟩, _⟩ =>
    obtain ⟨y0, rfl, o0⟩ := tyof26 h0
    rw [row26] at e0
    have q0 : x0 = (A72.e y0) := e0
    obtain ⟨y1, rfl, o1⟩ := tyof28 h1
    rw [row28] at e1
    have q1 : x1 = (A7.e y1) := e1
    subst q0 q1
    exact m_law31_MatchOutcomes_ok ((fun _ _ => plain_MatchOutcomes _ _) o0 o1)

set_option maxRecDepth 100000 in
/-- The law's row. -/
theorem matchOutcomes_row : Rows.MatchOutcomesSaid :=
  OpenClaim.holds_of_wide 3 Tryz.f3 rfl rfl rfl rfl rfl rfl rfl ⟨rfl, rfl, rfl, rfl, rfl⟩ rfl rfl rfl rfl rfl (by kernel_rfl) Tryz.func3 (by kernel_rfl)
    (of_decide_eq_true (by kernel_rfl)) (by unfold Func.isWrapper; first | (rw [if_pos (by decide +kernel)]; kernel_rfl) | (rw [if_neg (by decide +kernel)]; exact ⟨rfl, rfl⟩))
    (fun os started H enc _ => by
      have lifted : ReturnsInHanded {} Tryz.checked os 3 .any (fun w args => (Rows.matchOutcomesSpec.pre enc Tryz.prog Tryz.f3 [] false w args ∧ laidMetH Tryz.prog laidAll w) ∧ sizedMet enc Tryz.prog Tryz.f3 (OpenSpec.ofChange Rows.matchOutcomesSpec) false w args)
          (Rows.matchOutcomesSpec.post enc Tryz.prog Tryz.f3 Rows.matchOutcomesRow.apart Rows.matchOutcomesRow.fresh Rows.matchOutcomesRow.handsOn Rows.matchOutcomesRow.again) := by
        refine returnsInHanded_of_change_and (C := Tryz.checked) (X := fun w _ => laidMetH Tryz.prog laidAll w) (fun _ _ _ hh h => h.of_heap hh) own started (by kernel_rfl) Tryz.func3
          (ChangeSpec.witness_shaped (enc := enc) (C := Tryz.checked) (os := os) (X := fun w _ => laidMetH Tryz.prog laidAll w) false (World.doorLaid Tryz.prog 400 os) #[.agg #[.int .i64 0, .int .i64 0, .int .i64 0, .int .i64 0, .int .i64 0, .int .i64 0, .int .i64 0, .int .i64 0, .int .i64 0, .int .i64 0, .int .i64 0, .int .i64 0, .int .i64 0, .int .i64 0, .int .i64 0, .int .i64 0, .int .i64 0, .int .i64 0, .int .i64 0, .int .i64 0, .int .i64 0, .int .i64 0, .int .i64 0, .int .i64 0, .int .i64 0, .int .i64 0, .int .i64 0, .int .i64 0, .int .i64 0, .int .i64 0, .int .i64 0, .int .i64 0, .int .i64 0, .int .i64 0, .int .i64 0, .int .i64 0, .int .i64 0, .int .i64 0, .int .i64 0, .int .i64 0, .int .i64 0, .int .i64 0], .agg #[.int .i64 0, .int .i64 0, .int .i64 0, .int .i64 0, .int .i64 0, .int .i64 0, .int .i64 0]] 8 rfl (World.shaped_of_RefB (by kernel_rfl) (by kernel_rfl)) (by kernel_rfl) (by kernel_rfl) (by kernel_rfl) (door_met os _)) ?_
        intro W base args ds gs before hval hW _ _ hL _
        exact law_calls (P := Tryz.prog) (ts := [26, 28]) (tb := 4) (by rw [Tryz.params3]) rfl Tryz.underlying4 rfl (by kernel_rfl) laidOut (by kernel_rfl) (fun ds h => by
          match ds, h with
          | [_, _], _ => exact ⟨rfl, rfl, rfl⟩) (of_laid hL) (fun xs h => matchOutcomes_all xs h) hval hW
      exact lifted)
/-- The tied card. -/
theorem matchOutcomes_holds : Rows.MatchOutcomesCardSaid :=
  Claim7.holds_tied_plain_at .later [] [.data, .data, .data] true (true, "b905f42bcffe6e13e90321fb8ed1d5678e0e9df440067e01b6ff42148ab7b9bf") false
    matchOutcomes_row (fun _ h => by cases h) (by kernel_rfl) (fun _ h => by cases h) matchOutcomes_row_tie rfl ⟨rfl, rfl⟩ (by kernel_rfl) rfl
    (fun f fn hf hfn => by
      obtain rfl : f = 3 := Option.some.inj ((show Tryz.prog.funcNamed "bookplate/bookplatelaw31.MatchOutcomes" = some 3 by kernel_rfl).symm.trans hf) |>.symm
      obtain rfl : fn = Tryz.f3 := (Option.some.inj (Tryz.func3.symm.trans hfn)).symm
      exact ⟨by kernel_rfl, fun j t ht => by
        rw [Tryz.params3] at ht
        have hm : t ∈ [26, 28] := by simpa using Array.mem_of_getElem? ht
        have hall : ([26, 28].all fun u => !Tryz.prog.wantsStandIn u) = true := by kernel_rfl
        exact (show Tryz.prog.wantsStandIn t = false by simpa using List.all_eq_true.1 hall t hm)⟩)
    (by kernel_rfl)

end Go.Proofs.YtgcmhhcopeiomaaGreatDoor.Ab
