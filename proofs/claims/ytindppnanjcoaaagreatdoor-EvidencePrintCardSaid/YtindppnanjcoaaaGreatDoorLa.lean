/- What the row says of the package's variables. Conditions: none. -/
import Derived.Test.YtindppnanjcoaaaGreatDoorKa
import Derived.Test.YtindppnanjcoaaaGreatDoorIt
import Derived.LaidMore
import Derived.OpenShut
import Derived.Stop.Joined
import Derived.Lib.LaidTab
set_option maxRecDepth 100000
namespace Go.Proofs.YtindppnanjcoaaaGreatDoor.Ab
open Go Go.ChangeShapes Go.WideShapes Go.ChangeAt Go.RowKit

abbrev laidAll : List (String × DataW Unit) := [("math/bits.deBruijn32tab", Rows.laid_math_bits_deBruijn32tab), ("math/bits.deBruijn64tab", Rows.laid_math_bits_deBruijn64tab), ("internal/strconv.uint64pow10", Rows.laid_internal_strconv_uint64pow10)]
theorem gPow : Tryz.prog.globalNamed "internal/strconv.uint64pow10" = some 0 := by kernel_rfl
theorem tPow : ∃ t e, (Tryz.prog.globals[0]?).map (·.type) = some t ∧ Tryz.prog.underlying t = some (.array 20 e) ∧ Tryz.prog.underlying e = some (.int .u64) ∧ Tryz.prog.cellsOf e = 1 ∧ Tryz.prog.cellsOf t = 20 := ⟨_, _, rfl, rfl, rfl, rfl, rfl⟩
theorem pow_data : (Rows.laid_internal_strconv_uint64pow10 : DataW Unit) = Lib.tabData .u64 Lib.pow10Tab := by rfl
theorem door_met (os : Os) (args : Array Value) : laidMetH Tryz.prog laidAll ((World.doorLaid Tryz.prog 400 os).forCall (fun _ _ => 0) ⟨#[], args, []⟩).memory :=
  laidMetH_of_parts3 (fuel := 8) (laidMet_of_run' 8 (by kernel_rfl) (by kernel_rfl)) (by kernel_rfl) (by kernel_rfl)
theorem of_laid {W : World} (h : laidMetH Tryz.prog laidAll W) : ∀ x ∈ KC, ∃ et fr, W.heap[x.1]? = some (.cells x.2 et fr) := by
  rw [MakeChecks.laidMetH_plain _ _ _ (by kernel_rfl)] at h
  obtain ⟨ps, ⟨g0, t0, cs0, f0, p0, q0, hg0, ht0, hv0, hd0, ⟨g1, t1, cs1, f1, p1, q1, hg1, ht1, hv1, hd1, ⟨g2, t2, cs2, f2, p2, q2, hg2, ht2, hv2, hd2, _, _⟩, _⟩, _⟩, _, _⟩ := h
  obtain rfl := Option.some.inj (gPow.symm.trans hg2)
  obtain ⟨t, e, y1, y2, y3, y4, y5⟩ := tPow
  obtain rfl := Option.some.inj (y1.symm.trans ht2)
  rw [pow_data] at hd2
  have hcs := Lib.cells_of_tab y2 y3 y4 y5 hd2
  intro x hx
  obtain rfl := List.mem_singleton.1 hx
  unfold World.var? at hv2
  rw [gPow] at hv2
  simp only [Option.bind_some] at hv2
  generalize hh : W.heap[0]? = o at hv2
  match o, hv2 with
  | some (.cells cs et fr), hv2 =>
    injection hv2 with hv2
    subst hv2
    have : cs = ((List.range 20).map fun i => Value.int .u64 ((10 ^ i : Nat) : Int)).toArray := by
      apply Array.toList_inj.1
      rw [hcs]
      simp [Lib.pow10Tab, Function.comp_def]
    exact ⟨et, fr, by rw [this]⟩
end Go.Proofs.YtindppnanjcoaaaGreatDoor.Ab
