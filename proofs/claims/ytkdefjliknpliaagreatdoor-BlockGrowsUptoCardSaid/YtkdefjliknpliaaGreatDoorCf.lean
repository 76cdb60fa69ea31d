/- The law BlockGrows holds. Conditions: none. -/
import Derived.Test.YtkdefjliknpliaaGreatDoorKa
import Derived.Test.YtkdefjliknpliaaGreatDoorLa
import Derived.Test.YtkdefjliknpliaaGreatDoorTie
import Derived.Test.YtkdefjliknpliaaGreatDoorCards
import Derived.SevenTiedAt
import Derived.Deep.DeepHandedRow
import Derived.JoinedCond
import Derived.Test.YtkdefjliknpliaaGreatDoorOk
import Derived.Test.YtkdefjliknpliaaGreatDoorUv
import Derived.Test.YtkdefjliknpliaaGreatDoorGf
set_option maxRecDepth 100000
namespace Go.Proofs.YtkdefjliknpliaaGreatDoor.Ab
open Go Go.ChangeShapes Go.WideShapes Go.ChangeAt Go.RowKit
theorem blockGrows_all (xs : List D) (h : TyAll Tryz.prog 1048576 [22, 71] xs) : Fn Tryz.prog 8 xs (.bool true) := by
  match xs, h with
  | [x0, x1], ⟨⟨c0, h0, e0⟩, ⟨c1, h1, e1⟩, _⟩ =>
    obtain ⟨y0, rfl, o0⟩ := tyof22 h0
    rw [row22] at e0
    have q0 : x0 = (.sl (y0.map SFeatures.e)) := e0
    obtain ⟨y1, rfl, o1⟩ := tyof71 h1
    rw [row71] at e1
    have q1 : x1 = (A2.e y1) := e1
    subst q0 q1
    exact m_law30_BlockGrows_ok ((fun o0 o1 => plain_BlockGrows (fl_of o0).1 (fl_of o0).2 (u8_of o1.1) (u8_of o1.2)) o0 o1)
set_option maxRecDepth 100000 in
theorem blockGrows_reads (os : Os) {H : Type} (enc : TypeId × Value → H) : ∃ places, DataW.whole enc Tryz.prog ((World.doorLaid Tryz.prog 400 os).forCall (fun _ _ => 0) ⟨#[], #[.slice none 0 0, .agg #[.int .u8 0, .int .u8 0]], []⟩).memory Tryz.f8.params.toList Rows.blockGrowsSpec.vars false (#[.slice none 0 0, .agg #[.int .u8 0, .int .u8 0]] : Array Value).toList 8 = some ([.nil, .agg [.lit (.int .u8 0), .lit (.int .u8 0)]], [], places) :=
  ⟨[], by kernel_rfl⟩
set_option maxRecDepth 100000 in
theorem blockGrows_lifted (os : Os) (started : os.Started) (H : Type) (enc : TypeId × Value → H) (F : Stop.Interp) :
    ReturnsInHanded {} Tryz.checked os 8 .any ((Rows.OpenSpec.upto Rows.blockGrowsSpec).preRow enc Tryz.prog Tryz.f8 Rows.blockGrowsUptoRow.domain false Rows.blockGrowsUptoRow.laid) (((Rows.OpenSpec.upto Rows.blockGrowsSpec).at F).post enc Tryz.prog Tryz.f8 Rows.blockGrowsUptoRow.apart Rows.blockGrowsUptoRow.fresh Rows.blockGrowsUptoRow.handsOn Rows.blockGrowsUptoRow.again) := by
  obtain ⟨places, hx⟩ := blockGrows_reads os enc
  have hok : Input.okWideB Tryz.checked.prog ((World.doorLaid Tryz.prog 400 os).forCall (fun _ _ => 0) ⟨#[], #[.slice none 0 0, .agg #[.int .u8 0, .int .u8 0]], []⟩) 8 ⟨#[], #[.slice none 0 0, .agg #[.int .u8 0, .int .u8 0]], []⟩ = true := by kernel_rfl
  refine returnsInHanded_of_row (C := Tryz.checked) (s := Rows.OpenSpec.upto Rows.blockGrowsSpec) own started (by kernel_rfl) Tryz.func8
    ⟨World.doorLaid Tryz.prog 400 os, fun _ _ => 0, ⟨#[], #[.slice none 0 0, .agg #[.int .u8 0, .int .u8 0]], []⟩, rfl, World.shaped_of_RefB (by kernel_rfl) (by kernel_rfl), (Input.okWide_of_okWideB (base := 0) hok).1, (Input.okWide_of_okWideB hok).2,
      OpenSpec.preRow_of_cond 8 hx (by kernel_rfl) (fun k hk => by cases hk; kernel_rfl) (by kernel_rfl) (door_met os _), by
        simp only [Assume.holds]
        exact ⟨by simp, by simp, fun h => by simp at h, by simp, by simp⟩⟩ ?_
  intro W base args ds gs before hval hW _ hcond _ hL _ _
  have hk2 : Rows.uptoBulkAll ds ≤ 1048576 := bulk_left (of_decide_eq_true (hcond _ rfl))
  exact law_callsS (P := Tryz.prog) smU (ts := [22, 71]) (tb := 4) (by rw [Tryz.params8]) rfl Tryz.underlying4 rfl (by kernel_rfl) laidOut (by kernel_rfl) (fun ds h => by
    match ds, h with
    | [_, _], _ => exact ⟨rfl, rfl, rfl⟩) (of_laid hL) blockGrows_all hval hW (fun d hd => bulk_each hd hk2)
set_option maxRecDepth 100000 in
/-- The law's row. -/
theorem blockGrows_row : Rows.BlockGrowsUptoSaid :=
  OpenClaim.holds_of_cond 8 Tryz.f8 rfl rfl rfl rfl rfl rfl rfl ⟨rfl, rfl, rfl, rfl, rfl⟩ rfl rfl rfl rfl rfl (by kernel_rfl) Tryz.func8 (by kernel_rfl)
    (of_decide_eq_true (by kernel_rfl)) (by unfold Func.isWrapper; first | (rw [if_pos (by decide +kernel)]; kernel_rfl) | (rw [if_neg (by decide +kernel)]; exact ⟨rfl, rfl⟩))
    (fun os started H enc _ F => by rw [OpenClaim.pre_eq_preRow]; exact blockGrows_lifted os started H enc F)
/-- The tied card. -/
theorem blockGrows_holds : Rows.BlockGrowsUptoCardSaid :=
  Claim7.holds_tied_plain_at .later [] [.data, .data, .data] true (true, "6191aabf65a7c9d8d8db7388160fbdd6f3a1fed50c1a64d26104c3c3b76421ad") false
    blockGrows_row (fun _ h => by cases h) (by kernel_rfl) (fun _ h => by cases h) blockGrowsUpto_row_tie rfl ⟨rfl, rfl⟩ (by kernel_rfl) rfl
    (fun f fn hf hfn => by
      obtain rfl : f = 8 := Option.some.inj ((show Tryz.prog.funcNamed "bookplate/bookplatelaw30.BlockGrows" = some 8 by kernel_rfl).symm.trans hf) |>.symm
      obtain rfl : fn = Tryz.f8 := (Option.some.inj (Tryz.func8.symm.trans hfn)).symm
      exact ⟨by kernel_rfl, fun j t ht => by
        rw [Tryz.params8] at ht
        have hm : t ∈ [22, 71] := by simpa using Array.mem_of_getElem? ht
        have hall : ([22, 71].all fun u => !Tryz.prog.wantsStandIn u) = true := by kernel_rfl
        exact (show Tryz.prog.wantsStandIn t = false by simpa using List.all_eq_true.1 hall t hm)⟩)
    (by kernel_rfl)
end Go.Proofs.YtkdefjliknpliaaGreatDoor.Ab
