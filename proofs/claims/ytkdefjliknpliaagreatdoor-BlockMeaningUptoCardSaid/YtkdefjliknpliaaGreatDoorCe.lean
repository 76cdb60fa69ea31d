/- The law BlockMeaning holds. Conditions: none. -/
import Derived.Test.YtkdefjliknpliaaGreatDoorKa
import Derived.Test.YtkdefjliknpliaaGreatDoorLa
import Derived.Test.YtkdefjliknpliaaGreatDoorTie
import Derived.Test.YtkdefjliknpliaaGreatDoorCards
import Derived.SevenTiedAt
import Derived.Deep.DeepHandedRow
import Derived.JoinedCond
import Derived.Test.YtkdefjliknpliaaGreatDoorOk
import Derived.Test.YtkdefjliknpliaaGreatDoorUv
import Derived.Test.YtkdefjliknpliaaGreatDoorGe
set_option maxRecDepth 100000
namespace Go.Proofs.YtkdefjliknpliaaGreatDoor.Ab
open Go Go.ChangeShapes Go.WideShapes Go.ChangeAt Go.RowKit

theorem blockMeaning_all (xs : List D) (h : TyAll Tryz.prog 1048576 [22, 5] xs) : Fn Tryz.prog 6 xs (.bool true) := by
  match xs, h with
  | [x0, x1], ⟨⟨c0, h0, e0⟩, ⟨c1, h1, e1⟩, _⟩ =>
    obtain ⟨y0, rfl, o0⟩ := tyof22 h0
    rw [row22] at e0
    have q0 : x0 = (.sl (y0.map SFeatures.e)) := e0
    obtain ⟨y1, rfl, o1⟩ := tyof5 h1
    rw [row5] at e1
    have q1 : x1 = (.int .u8 y1) := e1
    subst q0 q1
    exact m_law30_BlockMeaning_ok ((fun o0 o1 => plain_BlockMeaning (fl_of o0).1 (fl_of o0).2 (u8_of o1)) o0 o1)

set_option maxRecDepth 100000 in
theorem blockMeaning_reads (os : Os) {H : Type} (enc : TypeId × Value → H) : ∃ places, DataW.whole enc Tryz.prog ((World.doorLaid Tryz.prog 400 os).forCall (fun _ _ => 0) ⟨#[], #[.slice none 0 0, .int .u8 0], []⟩).memory Tryz.f6.params.toList Rows.blockMeaningSpec.vars false (#[.slice none 0 0, .int .u8 0] : Array Value).toList 8 = some ([.nil, .lit (.int .u8 0)], [], places) :=
  ⟨[], by kernel_rfl⟩
set_option maxRecDepth 100000 in
theorem blockMeaning_lifted (os : Os) (started : os.Started) (H : Type) (enc : TypeId × Value → H) (F : Stop.Interp) :
    ReturnsInHanded {} Tryz.checked os 6 .any ((Rows.OpenSpec.upto Rows.blockMeaningSpec).preRow enc Tryz.prog Tryz.f6 Rows.blockMeaningUptoRow.domain false Rows.blockMeaningUptoRow.laid) (((Rows.OpenSpec.upto Rows.blockMeaningSpec).at F).post enc Tryz.prog Tryz.f6 Rows.blockMeaningUptoRow.apart Rows.blockMeaningUptoRow.fresh Rows.blockMeaningUptoRow.handsOn Rows.blockMeaningUptoRow.again) := by
  obtain ⟨places, hx⟩ := blockMeaning_reads os enc
  have hok : Input.okWideB Tryz.checked.prog ((World.doorLaid Tryz.prog 400 os).forCall (fun _ _ => 0) ⟨#[], #[.slice none 0 0, .int .u8 0], []⟩) 6 ⟨#[], #[.slice none 0 0, .int .u8 0], []⟩ = true := by kernel_rfl
  refine returnsInHanded_of_row (C := Tryz.checked) (s := Rows.OpenSpec.upto Rows.blockMeaningSpec) own started (by kernel_rfl) Tryz.func6
    ⟨World.doorLaid Tryz.prog 400 os, fun _ _ => 0, ⟨#[], #[.slice none 0 0, .int .u8 0], []⟩, rfl, World.shaped_of_RefB (by kernel_rfl) (by kernel_rfl), (Input.okWide_of_okWideB (base := 0) hok).1, (Input.okWide_of_okWideB hok).2,
      OpenSpec.preRow_of_cond 8 hx (by kernel_rfl) (fun k hk => by cases hk; kernel_rfl) (by kernel_rfl) (door_met os _), by
        simp only [Assume.holds]
        exact ⟨by simp, by simp, fun h => by simp at h, by simp, by simp⟩⟩ ?_
  intro W base args ds gs before hval hW _ hcond _ hL _ _
  have hk2 : Rows.uptoBulkAll ds ≤ 1048576 := bulk_left (of_decide_eq_true (hcond _ rfl))
  exact law_callsS (P := Tryz.prog) smU (ts := [22, 5]) (tb := 4) (by rw [Tryz.params6]) rfl Tryz.underlying4 rfl (by kernel_rfl) laidOut (by kernel_rfl) (fun ds h => by
    match ds, h with
    | [_, _], _ => exact ⟨rfl, rfl, rfl⟩) (of_laid hL) blockMeaning_all hval hW (fun d hd => bulk_each hd hk2)
set_option maxRecDepth 100000 in
/-- The law's row. -/
theorem blockMeaning_row : Rows.BlockMeaningUptoSaid :=
  OpenClaim.holds_of_cond 6 Tryz.f6 rfl rfl rfl rfl rfl rfl rfl ⟨rfl, rfl, rfl, rfl, rfl⟩ rfl rfl rfl rfl rfl (by kernel_rfl) Tryz.func6 (by kernel_rfl)
    (of_decide_eq_true (by kernel_rfl)) (by unfold Func.isWrapper; first | (rw [if_pos (by decide +kernel)]; kernel_rfl) | (rw [if_neg (by decide +kernel)]; exact ⟨rfl, rfl⟩))
    (fun os started H enc _ F => by rw [OpenClaim.pre_eq_preRow]; exact blockMeaning_lifted os started H enc F)
/-- The tied card. -/
theorem blockMeaning_holds : Rows.BlockMeaningUptoCardSaid :=
  Claim7.holds_tied_plain_at .later [] [.data, .data, .data] true (true, "6191aabf65a7c9d8d8db7388160fbdd6f3a1fed50c1a64d26104c3c3b76421ad") false
    blockMeaning_row (fun _ h => by cases h) (by kernel_rfl) (fun _ h => by cases h) blockMeaningUpto_row_tie rfl ⟨rfl, rfl⟩ (by kernel_rfl) rfl
    (fun f fn hf hfn => by
      obtain rfl : f = 6 := Option.some.inj ((show Tryz.prog.funcNamed "bookplate/bookplatelaw30.BlockMeaning" = some 6 by kernel_rfl).symm.trans hf) |>.symm
      obtain rfl : fn = Tryz.f6 := (Option.some.inj (Tryz.func6.symm.trans hfn)).symm
      exact ⟨by kernel_rfl, fun j t ht => by
        rw [Tryz.params6] at ht
        have hm : t ∈ [22, 5] := by simpa using Array.mem_of_getElem? ht
        have hall : ([22, 5].all fun u => !Tryz.prog.wantsStandIn u) = true := by kernel_rfl
        exact (show Tryz.prog.wantsStandIn t = false by simpa using List.all_eq_true.1 hall t hm)⟩)
    (by kernel_rfl)

end Go.Proofs.YtkdefjliknpliaaGreatDoor.Ab
