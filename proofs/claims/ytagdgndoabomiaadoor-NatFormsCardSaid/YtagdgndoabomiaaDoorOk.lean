/- What comes in, as plain data. Conditions: none. -/
import Derived.Test.YtagdgndoabomiaaDoorAb11
import Derived.Test.YtagdgndoabomiaaDoorTy
import Derived.Test.YtagdgndoabomiaaDoorMi
import Derived.Test.YtagdgndoabomiaaDoorRows
import Derived.ProofKit
set_option maxRecDepth 100000
namespace Go.Proofs.YtagdgndoabomiaaDoor.Ab
open Go Go.ChangeShapes Go.WideShapes Go.ChangeAt Go.RowKit

theorem small {n : Nat} (h : n ≤ maxLen) : n ≤ 9223372036854775807 := by unfold maxLen at h; omega
theorem row22 : isRow Tryd.prog 22 = false := by simp [isRow, Tryd.underlying22]
theorem row3 : isRow Tryd.prog 3 = false := by simp [isRow, Tryd.underlying3]
def Ok3 (_ : Nat) (x : Int) : Prop := (Lit.int .i64 x).wf = true
theorem tyof3 {N : Nat} {c : List D} (h : Ty Tryd.prog N 3 c) : ∃ x : Int, c = D.cells (.int .i64 x) ∧ Ok3 N x := by
  obtain ⟨x, rfl, hw⟩ := h.inv_int Tryd.underlying3
  exact ⟨x, rfl, hw⟩
def Ok22 (N : Nat) (x : (List Int)) : Prop := x.length ≤ N ∧ ∀ y ∈ x, Ok3 N y
theorem tyof22 {N : Nat} {c : List D} (h : Ty Tryd.prog N 22 c) : ∃ x : (List Int), c = D.cells (.sl (x.map D.i)) ∧ Ok22 N x := by
  obtain ⟨l, rfl, hl, hx⟩ := h.inv_sl Tryd.underlying22
  obtain ⟨ys, rfl, hy⟩ := list_of2 (f := fun y : Int => (D.i y).cells) (S := Ok3 N) (fun _ hc => tyof3 hc) hx
  refine ⟨ys, ?_, by simpa using hl, hy⟩
  rw [List.map_map, row3]
  rfl
end Go.Proofs.YtagdgndoabomiaaDoor.Ab
