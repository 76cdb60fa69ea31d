/- The law NatForms holds. Conditions: none. -/
import Derived.Test.YtagdgndoabomiaaDoorKa
import Derived.Test.YtagdgndoabomiaaDoorLa
import Derived.Test.YtagdgndoabomiaaDoorTie
import Derived.Test.YtagdgndoabomiaaDoorCards
import Derived.SevenTiedAt
import Derived.Test.YtagdgndoabomiaaDoorOk
import Derived.Test.YtagdgndoabomiaaDoorQg
import Derived.Test.YtagdgndoabomiaaDoorFf
set_option maxRecDepth 100000
namespace Go.Proofs.YtagdgndoabomiaaDoor.Ab
open Go Go.ChangeShapes Go.WideShapes Go.ChangeAt Go.RowKit

theorem natForms_all (xs : List D) (h : TyAll Tryd.prog 9223372036854775807 [3, 22, 22] xs) : Fn Tryd.prog 11 xs (.bool true) := by
  match xs, h with
  | [x0, x1, x2], ⟨⟨c0, h0, e0⟩, ⟨c1, h1, e1⟩, ⟨c2, h2, e2⟩, _⟩ =>
    obtain ⟨y0, rfl, o0⟩ := tyof3 h0
    rw [row3] at e0
    have q0 : x0 = (.int .i64 y0) := e0
    obtain ⟨y1, rfl, o1⟩ := tyof22 h1
    rw [row22] at e1
    have q1 : x1 = (.sl (y1.map D.i)) := e1
    obtain ⟨y2, rfl, o2⟩ := tyof22 h2
    rw [row22] at e2
    have q2 : x2 = (.sl (y2.map D.i)) := e2
    subst q0 q1 q2
    exact m_law03_NatForms_ok ((fun o0 o1 o2 => plain_NatForms (i64_ok o0) o1.1 o2.1) o0 o1 o2)

set_option maxRecDepth 100000 in
/-- The law's row. -/
theorem natForms_row : Rows.NatFormsSaid :=
  OpenClaim.holds_of_wide 11 Tryd.f11 rfl rfl rfl rfl rfl rfl rfl ⟨rfl, rfl, rfl, rfl, rfl⟩ rfl rfl rfl rfl rfl (by kernel_rfl) Tryd.func11 (by kernel_rfl)
    (of_decide_eq_true (by kernel_rfl)) (by unfold Func.isWrapper; first | (rw [if_pos (by decide +kernel)]; kernel_rfl) | (rw [if_neg (by decide +kernel)]; exact ⟨rfl, rfl⟩))
    (fun os started H enc _ => by
      have lifted : ReturnsInHanded {} Tryd.checked os 11 .any (fun w args => (Rows.natFormsSpec.pre enc Tryd.prog Tryd.f11 [] false w args ∧ laidMetH Tryd.prog laidAll w) ∧ sizedMet enc Tryd.prog Tryd.f11 (OpenSpec.ofChange Rows.natFormsSpec) false w args)
          (Rows.natFormsSpec.post enc Tryd.prog Tryd.f11 Rows.natFormsRow.apart Rows.natFormsRow.fresh Rows.natFormsRow.handsOn Rows.natFormsRow.again) := by
        refine returnsInHanded_of_change_and (C := Tryd.checked) (X := fun w _ => laidMetH Tryd.prog laidAll w) (fun _ _ _ hh h => h.of_heap hh) own started (by kernel_rfl) Tryd.func11
          (ChangeSpec.witness_shaped (enc := enc) (C := Tryd.checked) (os := os) (X := fun w _ => laidMetH Tryd.prog laidAll w) false (World.doorLaid Tryd.prog 400 os) #[.int .i64 0, .slice none 0 0, .slice none 0 0] 8 rfl (World.shaped_of_RefB (by kernel_rfl) (by kernel_rfl)) (by kernel_rfl) (by kernel_rfl) (by kernel_rfl) (door_met os _)) ?_
        intro W base args ds gs before hval hW _ _ hL _
        exact law_calls (P := Tryd.prog) (ts := [3, 22, 22]) (tb := 4) (by rw [Tryd.params11]) rfl Tryd.underlying4 rfl (by kernel_rfl) laidOut (by kernel_rfl) (fun ds h => by
          match ds, h with
          | [_, _, _], _ => exact ⟨rfl, rfl, rfl⟩) (of_laid hL) (fun xs h => natForms_all xs h) hval hW
      exact lifted)
/-- The tied card. -/
theorem natForms_holds : Rows.NatFormsCardSaid :=
  Claim7.holds_tied_plain_at .later [] [.data, .data, .data] true (true, "d59154a42fcf35eb51aa72a54e9a4a495c475a0730d779a9a3cbd773ea84e010") false
    natForms_row (fun _ h => by cases h) (by kernel_rfl) (fun _ h => by cases h) natForms_row_tie rfl ⟨rfl, rfl⟩ (by kernel_rfl) rfl
    (fun f fn hf hfn => by
      obtain rfl : f = 11 := Option.some.inj ((show Tryd.prog.funcNamed "bookplate/bookplatelaw03.NatForms" = some 11 by kernel_rfl).symm.trans hf) |>.symm
      obtain rfl : fn = Tryd.f11 := (Option.some.inj (Tryd.func11.symm.trans hfn)).symm
      exact ⟨by kernel_rfl, fun j t ht => by
        rw [Tryd.params11] at ht
        have hm : t ∈ [3, 22, 22] := by simpa using Array.mem_of_getElem? ht
        have hall : ([3, 22, 22].all fun u => !Tryd.prog.wantsStandIn u) = true := by kernel_rfl
        exact (show Tryd.prog.wantsStandIn t = false by simpa using List.all_eq_true.1 hall t hm)⟩)
    (by kernel_rfl)

end Go.Proofs.YtagdgndoabomiaaDoor.Ab
