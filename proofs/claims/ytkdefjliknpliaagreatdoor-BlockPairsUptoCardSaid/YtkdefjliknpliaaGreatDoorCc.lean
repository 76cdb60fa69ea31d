/- The law BlockPairs holds. Conditions: none. -/
import Derived.Test.YtkdefjliknpliaaGreatDoorKa
import Derived.Test.YtkdefjliknpliaaGreatDoorLa
import Derived.Test.YtkdefjliknpliaaGreatDoorTie
import Derived.Test.YtkdefjliknpliaaGreatDoorCards
import Derived.SevenTiedAt
import Derived.Deep.DeepHandedRow
import Derived.JoinedCond
import Derived.Test.YtkdefjliknpliaaGreatDoorOk
import Derived.Test.YtkdefjliknpliaaGreatDoorUv
import Derived.Test.YtkdefjliknpliaaGreatDoorGc
set_option maxRecDepth 100000
namespace Go.Proofs.YtkdefjliknpliaaGreatDoor.Ab
open Go Go.ChangeShapes Go.WideShapes Go.ChangeAt Go.RowKit

theorem blockPairs_all (xs : List D) (h : TyAll Tryz.prog 1048576 [32, 40, 3] xs) : Fn Tryz.prog 7 xs (.bool true) := by
  match xs, h with
  | [x0, x1, x2], ⟨⟨c0, h0, e0⟩, ⟨c1, h1, e1⟩, ⟨c2, h2, e2⟩, _⟩ =>
    obtain ⟨y0, rfl, o0⟩ := tyof32 h0
    rw [row32] at e0
    have q0 : x0 = (.sl (y0.map SBlock.e)) := e0
    obtain ⟨y1, rfl, o1⟩ := tyof40 h1
    rw [row40] at e1
    have q1 : x1 = (SFeatures.e y1) := e1
    obtain ⟨y2, rfl, o2⟩ := tyof3 h2
    rw [row3] at e2
    have q2 : x2 = (.int .i64 y2) := e2
    subst q0 q1 q2
    exact m_law30_BlockPairs_ok ((fun o0 o1 _ => plain_BlockPairs (tb_of o0) (fb_of o1)) o0 o1 o2)

set_option maxRecDepth 100000 in
theorem blockPairs_reads (os : Os) {H : Type} (enc : TypeId × Value → H) : ∃ places, DataW.whole enc Tryz.prog ((World.doorLaid Tryz.prog 400 os).forCall (fun _ _ => 0) ⟨#[], #[.slice none 0 0, .agg #[.int .i64 0, .slice none 0 0, .string ⟨#[]⟩, .slice none 0 0, .slice none 0 0, .slice none 0 0, .slice none 0 0, .slice none 0 0], .int .i64 0], []⟩).memory Tryz.f7.params.toList Rows.blockPairsSpec.vars false (#[.slice none 0 0, .agg #[.int .i64 0, .slice none 0 0, .string ⟨#[]⟩, .slice none 0 0, .slice none 0 0, .slice none 0 0, .slice none 0 0, .slice none 0 0], .int .i64 0] : Array Value).toList 8 = some ([.nil, .agg [.lit (.int .i64 0), .nil, .lit (.string []), .nil, .nil, .nil, .nil, .nil], .lit (.int .i64 0)], [], places) :=
  ⟨[], by kernel_rfl⟩
set_option maxRecDepth 100000 in
theorem blockPairs_lifted (os : Os) (started : os.Started) (H : Type) (enc : TypeId × Value → H) (F : Stop.Interp) :
    ReturnsInHanded {} Tryz.checked os 7 .any ((Rows.OpenSpec.upto Rows.blockPairsSpec).preRow enc Tryz.prog Tryz.f7 Rows.blockPairsUptoRow.domain false Rows.blockPairsUptoRow.laid) (((Rows.OpenSpec.upto Rows.blockPairsSpec).at F).post enc Tryz.prog Tryz.f7 Rows.blockPairsUptoRow.apart Rows.blockPairsUptoRow.fresh Rows.blockPairsUptoRow.handsOn Rows.blockPairsUptoRow.again) := by
  obtain ⟨places, hx⟩ := blockPairs_reads os enc
  have hok : Input.okWideB Tryz.checked.prog ((World.doorLaid Tryz.prog 400 os).forCall (fun _ _ => 0) ⟨#[], #[.slice none 0 0, .agg #[.int .i64 0, .slice none 0 0, .string ⟨#[]⟩, .slice none 0 0, .slice none 0 0, .slice none 0 0, .slice none 0 0, .slice none 0 0], .int .i64 0], []⟩) 7 ⟨#[], #[.slice none 0 0, .agg #[.int .i64 0, .slice none 0 0, .string ⟨#[]⟩, .slice none 0 0, .slice none 0 0, .slice none 0 0, .slice none 0 0, .slice none 0 0], .int .i64 0], []⟩ = true := by kernel_rfl
  refine returnsInHanded_of_row (C := Tryz.checked) (s := Rows.OpenSpec.upto Rows.blockPairsSpec) own started (by kernel_rfl) Tryz.func7
    ⟨World.doorLaid Tryz.prog 400 os, fun _ _ => 0, ⟨#[], #[.slice none 0 0, .agg #[.int .i64 0, .slice none 0 0, .string ⟨#[]⟩, .slice none 0 0, .slice none 0 0, .slice none 0 0, .slice none 0 0, .slice none 0 0], .int .i64 0], []⟩, rfl, World.shaped_of_RefB (by kernel_rfl) (by kernel_rfl), (Input.okWide_of_okWideB (base := 0) hok).1, (Input.okWide_of_okWideB hok).2,
      OpenSpec.preRow_of_cond 8 hx (by kernel_rfl) (fun k hk => by cases hk; kernel_rfl) (by kernel_rfl) (door_met os _), by
        simp only [Assume.holds]
        exact ⟨by simp, by simp, fun h => by simp at h, by simp, by simp⟩⟩ ?_
  intro W base args ds gs before hval hW _ hcond _ hL _ _
  have hk2 : Rows.uptoBulkAll ds ≤ 1048576 := bulk_left (of_decide_eq_true (hcond _ rfl))
  exact law_callsS (P := Tryz.prog) smU (ts := [32, 40, 3]) (tb := 4) (by rw [Tryz.params7]) rfl Tryz.underlying4 rfl (by kernel_rfl) laidOut (by kernel_rfl) (fun ds h => by
    match ds, h with
    | [_, _, _], _ => exact ⟨rfl, rfl, rfl⟩) (of_laid hL) blockPairs_all hval hW (fun d hd => bulk_each hd hk2)
set_option maxRecDepth 100000 in
/-- The law's row. -/
theorem blockPairs_row : Rows.BlockPairsUptoSaid :=
  OpenClaim.holds_of_cond 7 Tryz.f7 rfl rfl rfl rfl rfl rfl rfl ⟨rfl, rfl, rfl, rfl, rfl⟩ rfl rfl rfl rfl rfl (by kernel_rfl) Tryz.func7 (by kernel_rfl)
    (of_decide_eq_true (by kernel_rfl)) (by unfold Func.isWrapper; first | (rw [if_pos (by decide +kernel)]; kernel_rfl) | (rw [if_neg (by decide +kernel)]; exact ⟨rfl, rfl⟩))
    (fun os started H enc _ F => by rw [OpenClaim.pre_eq_preRow]; exact blockPairs_lifted os started H enc F)
/-- The tied card. -/
theorem blockPairs_holds : Rows.BlockPairsUptoCardSaid :=
  Claim7.holds_tied_plain_at .later [] [.data, .data, .data] true (true, "6191aabf65a7c9d8d8db7388160fbdd6f3a1fed50c1a64d26104c3c3b76421ad") false
    blockPairs_row (fun _ h => by cases h) (by kernel_rfl) (fun _ h => by cases h) blockPairsUpto_row_tie rfl ⟨rfl, rfl⟩ (by kernel_rfl) rfl
    (fun f fn hf hfn => by
      obtain rfl : f = 7 := Option.some.inj ((show Tryz.prog.funcNamed "bookplate/bookplatelaw30.BlockPairs" = some 7 by kernel_rfl).symm.trans hf) |>.symm
      obtain rfl : fn = Tryz.f7 := (Option.some.inj (Tryz.func7.symm.trans hfn)).symm
      exact ⟨by kernel_rfl, fun j t ht => by
        rw [Tryz.params7] at ht
        have hm : t ∈ [32, 40, 3] := by simpa using Array.mem_of_getElem? ht
        have hall : ([32, 40, 3].all fun u => !Tryz.prog.wantsStandIn u) = true := by kernel_rfl
        exact (show Tryz.prog.wantsStandIn t = false by simpa using List.all_eq_true.1 hall t hm)⟩)
    (by kernel_rfl)

end Go.Proofs.YtkdefjliknpliaaGreatDoor.Ab
