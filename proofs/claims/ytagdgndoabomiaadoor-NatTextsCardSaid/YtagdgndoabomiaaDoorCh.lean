/- The law NatTexts holds. Conditions: none. -/
import Derived.Test.YtagdgndoabomiaaDoorKa
import Derived.Test.YtagdgndoabomiaaDoorLa
import Derived.Test.YtagdgndoabomiaaDoorTie
import Derived.Test.YtagdgndoabomiaaDoorCards
import Derived.SevenTiedAt
import Derived.Test.YtagdgndoabomiaaDoorQf
import Derived.Test.YtagdgndoabomiaaDoorFf
set_option maxRecDepth 100000
namespace Go.Proofs.YtagdgndoabomiaaDoor.Ab
open Go Go.ChangeShapes Go.WideShapes Go.ChangeAt Go.RowKit

theorem natTexts_all (xs : List D) (h : TyAll Tryd.prog [22, 9] xs) : Fn Tryd.prog 3 xs (.bool true) := by
  match xs, h with
  | [x0, x1], ⟨⟨c0, h0, e0⟩, ⟨c1, h1, e1⟩, _⟩ =>
    obtain ⟨y0, rfl, o0⟩ := tyof22 h0
    rw [row22] at e0
    have q0 : x0 = (.sl (y0.map D.i)) := e0
    obtain ⟨y1, rfl, o1⟩ := tyof9 h1
    rw [row9] at e1
    have q1 : x1 = (.str y1) := e1
    subst q0 q1
    exact m_law03_NatTexts_ok ((fun o0 o1 => plain_NatTexts o0.1 o1) o0 o1)

set_option maxRecDepth 100000 in
/-- The law's row. -/
theorem natTexts_row : Rows.NatTextsSaid :=
  OpenClaim.holds_of_wide 3 Tryd.f3 rfl rfl rfl rfl rfl rfl rfl ⟨rfl, rfl, rfl, rfl, rfl⟩ rfl rfl rfl rfl rfl (by kernel_rfl) Tryd.func3 (by kernel_rfl)
    (of_decide_eq_true (by kernel_rfl)) (by unfold Func.isWrapper; first | (rw [if_pos (by decide +kernel)]; kernel_rfl) | (rw [if_neg (by decide +kernel)]; exact ⟨rfl, rfl⟩))
    (fun os started H enc _ => by
      have lifted : ReturnsInHanded {} Tryd.checked os 3 .any (fun w args => (Rows.natTextsSpec.pre enc Tryd.prog Tryd.f3 [] false w args ∧ laidMetH Tryd.prog laidAll w) ∧ sizedMet enc Tryd.prog Tryd.f3 (OpenSpec.ofChange Rows.natTextsSpec) false w args)
          (Rows.natTextsSpec.post enc Tryd.prog Tryd.f3 Rows.natTextsRow.apart Rows.natTextsRow.fresh Rows.natTextsRow.handsOn Rows.natTextsRow.again) := by
        refine returnsInHanded_of_change_and (C := Tryd.checked) (X := fun w _ => laidMetH Tryd.prog laidAll w) (fun _ _ _ hh h => h.of_heap hh) own started (by kernel_rfl) Tryd.func3
          (ChangeSpec.witness_shaped (enc := enc) (C := Tryd.checked) (os := os) (X := fun w _ => laidMetH Tryd.prog laidAll w) false (World.doorLaid Tryd.prog 400 os) #[.slice none 0 0, .string ⟨#[]⟩] 8 rfl (World.shaped_of_RefB (by kernel_rfl) (by kernel_rfl)) (by kernel_rfl) (by kernel_rfl) (by kernel_rfl) (door_met os _)) ?_
        intro W base args ds gs before hval hW _ _ hL _
        exact law_calls (P := Tryd.prog) (ts := [22, 9]) (tb := 4) (by rw [Tryd.params3]) rfl Tryd.underlying4 rfl (by kernel_rfl) laidOut (by kernel_rfl) (fun ds h => by
          match ds, h with
          | [_, _], _ => exact ⟨rfl, rfl, rfl⟩) (of_laid hL) natTexts_all hval hW
      exact lifted)
/-- The tied card. -/
theorem natTexts_holds : Rows.NatTextsCardSaid :=
  Claim7.holds_tied_plain_at .later [] [.data, .data, .data] true (true, "d59154a42fcf35eb51aa72a54e9a4a495c475a0730d779a9a3cbd773ea84e010") false
    natTexts_row (fun _ h => by cases h) (by kernel_rfl) (fun _ h => by cases h) natTexts_row_tie rfl ⟨rfl, rfl⟩ (by kernel_rfl) rfl
    (fun f fn hf hfn => by
      obtain rfl : f = 3 := Option.some.inj ((show Tryd.prog.funcNamed "bookplate/bookplatelaw03.NatTexts" = some 3 by kernel_rfl).symm.trans hf) |>.symm
      obtain rfl : fn = Tryd.f3 := (Option.some.inj (Tryd.func3.symm.trans hfn)).symm
      exact ⟨by kernel_rfl, fun j t ht => by
        rw [Tryd.params3] at ht
        have hm : t ∈ [22, 9] := by simpa using Array.mem_of_getElem? ht
        have hall : ([22, 9].all fun u => !Tryd.prog.wantsStandIn u) = true := by kernel_rfl
        exact (show Tryd.prog.wantsStandIn t = false by simpa using List.all_eq_true.1 hall t hm)⟩)
    (by kernel_rfl)

end Go.Proofs.YtagdgndoabomiaaDoor.Ab
