/- The law WorkForms holds. Conditions: none. -/
import Derived.Test.YtlbiooppadlolaaGreatDoorKa
import Derived.Test.YtlbiooppadlolaaGreatDoorLa
import Derived.Test.YtlbiooppadlolaaGreatDoorTie
import Derived.Test.YtlbiooppadlolaaGreatDoorCards
import Derived.SevenTiedAt
import Derived.Test.YtlbiooppadlolaaGreatDoorOk
import Derived.Test.YtlbiooppadlolaaGreatDoorUq
import Derived.Test.YtlbiooppadlolaaGreatDoorGa
import Derived.Test.YtlbiooppadlolaaGreatDoorCj
import Derived.Test.YtlbiooppadlolaaGreatDoorCk
set_option maxRecDepth 100000
namespace Go.Proofs.YtlbiooppadlolaaGreatDoor.Ab
open Go Go.ChangeShapes Go.WideShapes Go.ChangeAt Go.RowKit

theorem workForms_all (xs : List D) (h : TyAll Tryz.prog 9223372036854775807 [22, 22, 3] xs) : Fn Tryz.prog 3 xs (.bool true) := by
  match xs, h with
  | [x0, x1, x2], ⟨⟨c0, h0, e0⟩, ⟨c1, h1, e1⟩, ⟨c2, h2, e2⟩, _⟩ =>
    obtain ⟨y0, rfl, o0⟩ := tyof22 h0
    rw [row22] at e0
    have q0 : x0 = (.sl (y0.map SWork.e)) := e0
    obtain ⟨y1, rfl, o1⟩ := tyof22 h1
    rw [row22] at e1
    have q1 : x1 = (.sl (y1.map SWork.e)) := e1
    obtain ⟨y2, rfl, o2⟩ := tyof3 h2
    rw [row3] at e2
    have q2 : x2 = (.int .i64 y2) := e2
    subst q0 q1 q2
    exact m_law35_WorkForms_ok ((fun o0 o1 _ => U.plain_WorkForms o0.1 o1.1) o0 o1 o2)

set_option maxRecDepth 100000 in
/-- The law's row. -/
theorem workForms_row : Rows.WorkFormsSaid :=
  OpenClaim.holds_of_wide 3 Tryz.f3 rfl rfl rfl rfl rfl rfl rfl ⟨rfl, rfl, rfl, rfl, rfl⟩ rfl rfl rfl rfl rfl (by kernel_rfl) Tryz.func3 row_joined
    (of_decide_eq_true (by kernel_rfl)) (by unfold Func.isWrapper; first | (rw [if_pos (by decide +kernel)]; kernel_rfl) | (rw [if_neg (by decide +kernel)]; exact ⟨rfl, rfl⟩))
    (fun os started H enc _ => by
      have lifted : ReturnsInHanded {} Tryz.checked os 3 .any (fun w args => (Rows.workFormsSpec.pre enc Tryz.prog Tryz.f3 [] false w args ∧ laidMetH Tryz.prog laidAll w) ∧ sizedMet enc Tryz.prog Tryz.f3 (OpenSpec.ofChange Rows.workFormsSpec) false w args)
          (Rows.workFormsSpec.post enc Tryz.prog Tryz.f3 Rows.workFormsRow.apart Rows.workFormsRow.fresh Rows.workFormsRow.handsOn Rows.workFormsRow.again) := by
        refine returnsInHanded_of_change_and (C := Tryz.checked) (X := fun w _ => laidMetH Tryz.prog laidAll w) (fun _ _ _ hh h => h.of_heap hh) own started (by kernel_rfl) Tryz.func3
          (ChangeSpec.witness_shaped (enc := enc) (C := Tryz.checked) (os := os) (X := fun w _ => laidMetH Tryz.prog laidAll w) false (World.doorLaid Tryz.prog 400 os) #[.slice none 0 0, .slice none 0 0, .int .i64 0] 8 rfl (row_shaped os) (row_wide os) (by kernel_rfl) (by kernel_rfl) (door_met os _)) ?_
        intro W base args ds gs before hval hW _ _ hL _
        exact law_calls (P := Tryz.prog) (ts := [22, 22, 3]) (tb := 4) (by rw [Tryz.params3]) rfl Tryz.underlying4 rfl (by kernel_rfl) laidOut (by kernel_rfl) (fun ds h => by
          match ds, h with
          | [_, _, _], _ => exact ⟨rfl, rfl, rfl⟩) (of_laid hL) (fun xs h => workForms_all xs h) hval hW
      exact lifted)
/-- The tied card. -/
theorem workForms_holds : Rows.WorkFormsCardSaid :=
  Claim7.holds_tied_plain_at .later [] [.data, .data, .data] true (true, "d8831e78f9ba4d42162b6aecd99113c42f9e606e45528711190cb37842bc7f4f") false
    workForms_row (fun _ h => by cases h) (by kernel_rfl) (fun _ h => by cases h) workForms_row_tie rfl ⟨rfl, rfl⟩ (by kernel_rfl) rfl
    (fun f fn hf hfn => by
      obtain rfl : f = 3 := Option.some.inj ((show Tryz.prog.funcNamed "bookplate/bookplatelaw35.WorkForms" = some 3 by kernel_rfl).symm.trans hf) |>.symm
      obtain rfl : fn = Tryz.f3 := (Option.some.inj (Tryz.func3.symm.trans hfn)).symm
      exact ⟨by kernel_rfl, fun j t ht => by
        rw [Tryz.params3] at ht
        have hm : t ∈ [22, 22, 3] := by simpa using Array.mem_of_getElem? ht
        have hall : ([22, 22, 3].all fun u => !Tryz.prog.wantsStandIn u) = true := by kernel_rfl
        exact (show Tryz.prog.wantsStandIn t = false by simpa using List.all_eq_true.1 hall t hm)⟩)
    (by kernel_rfl)

end Go.Proofs.YtlbiooppadlolaaGreatDoor.Ab
