/- The law EvidencePrint holds. Conditions: none. -/
import Derived.Test.YtindppnanjcoaaaGreatDoorKa
import Derived.Test.YtindppnanjcoaaaGreatDoorLa
import Derived.Test.YtindppnanjcoaaaGreatDoorTie
import Derived.Test.YtindppnanjcoaaaGreatDoorCards
import Derived.SevenTiedAt
import Derived.Test.YtindppnanjcoaaaGreatDoorOk
import Derived.Test.YtindppnanjcoaaaGreatDoorUq
import Derived.Test.YtindppnanjcoaaaGreatDoorGa
import Derived.Test.YtindppnanjcoaaaGreatDoorCj
import Derived.Test.YtindppnanjcoaaaGreatDoorCk
set_option maxRecDepth 100000
namespace Go.Proofs.YtindppnanjcoaaaGreatDoor.Ab
open Go Go.ChangeShapes Go.WideShapes Go.ChangeAt Go.RowKit

theorem evidencePrint_all (xs : List D) (h : TyAll Tryz.prog 9223372036854775807 [22] xs) : Fn Tryz.prog 3 xs (.bool true) := by
  match xs, h with
  | [x0], ⟨⟨c0, h0, e0⟩, _⟩ =>
    obtain ⟨y0, rfl, o0⟩ := tyof22 h0
    rw [row22] at e0
    have q0 : x0 = (.sl (y0.map SLink.e)) := e0
    subst q0
    exact m_law36_EvidencePrint_ok ((fun o0 => U.plain_EvidencePrint o0) o0)

set_option maxRecDepth 100000 in
/-- The law's row. -/
theorem evidencePrint_row : Rows.EvidencePrintSaid :=
  OpenClaim.holds_of_wide 3 Tryz.f3 rfl rfl rfl rfl rfl rfl rfl ⟨rfl, rfl, rfl, rfl, rfl⟩ rfl rfl rfl rfl rfl (by kernel_rfl) Tryz.func3 row_joined
    (of_decide_eq_true (by kernel_rfl)) (by unfold Func.isWrapper; first | (rw [if_pos (by decide +kernel)]; kernel_rfl) | (rw [if_neg (by decide +kernel)]; exact ⟨rfl, rfl⟩))
    (fun os started H enc _ => by
      have lifted : ReturnsInHanded {} Tryz.checked os 3 .any (fun w args => (Rows.evidencePrintSpec.pre enc Tryz.prog Tryz.f3 [] false w args ∧ laidMetH Tryz.prog laidAll w) ∧ sizedMet enc Tryz.prog Tryz.f3 (OpenSpec.ofChange Rows.evidencePrintSpec) false w args)
          (Rows.evidencePrintSpec.post enc Tryz.prog Tryz.f3 Rows.evidencePrintRow.apart Rows.evidencePrintRow.fresh Rows.evidencePrintRow.handsOn Rows.evidencePrintRow.again) := by
        refine returnsInHanded_of_change_and (C := Tryz.checked) (X := fun w _ => laidMetH Tryz.prog laidAll w) (fun _ _ _ hh h => h.of_heap hh) own started (by kernel_rfl) Tryz.func3
          (ChangeSpec.witness_shaped (enc := enc) (C := Tryz.checked) (os := os) (X := fun w _ => laidMetH Tryz.prog laidAll w) false (World.doorLaid Tryz.prog 400 os) #[.slice none 0 0] 8 rfl (row_shaped os) (row_wide os) (by kernel_rfl) (by kernel_rfl) (door_met os _)) ?_
        intro W base args ds gs before hval hW _ _ hL _
        exact law_calls (P := Tryz.prog) (ts := [22]) (tb := 4) (by rw [Tryz.params3]) rfl Tryz.underlying4 rfl (by kernel_rfl) laidOut (by kernel_rfl) (fun ds h => by
          match ds, h with
          | [_], _ => exact ⟨rfl, rfl, rfl⟩) (of_laid hL) (fun xs h => evidencePrint_all xs h) hval hW
      exact lifted)
/-- The tied card. -/
theorem evidencePrint_holds : Rows.EvidencePrintCardSaid :=
  Claim7.holds_tied_plain_at .later [] [.data, .data, .data] true (true, "9ac89b800f03609b09edc16146578038b10d79dd536355cb06a041e3e9a1e31c") false
    evidencePrint_row (fun _ h => by cases h) (by kernel_rfl) (fun _ h => by cases h) evidencePrint_row_tie rfl ⟨rfl, rfl⟩ (by kernel_rfl) rfl
    (fun f fn hf hfn => by
      obtain rfl : f = 3 := Option.some.inj ((show Tryz.prog.funcNamed "bookplate/bookplatelaw36.EvidencePrint" = some 3 by kernel_rfl).symm.trans hf) |>.symm
      obtain rfl : fn = Tryz.f3 := (Option.some.inj (Tryz.func3.symm.trans hfn)).symm
      exact ⟨by kernel_rfl, fun j t ht => by
        rw [Tryz.params3] at ht
        have hm : t ∈ [22] := by simpa using Array.mem_of_getElem? ht
        have hall : ([22].all fun u => !Tryz.prog.wantsStandIn u) = true := by kernel_rfl
        exact (show Tryz.prog.wantsStandIn t = false by simpa using List.all_eq_true.1 hall t hm)⟩)
    (by kernel_rfl)

end Go.Proofs.YtindppnanjcoaaaGreatDoor.Ab
