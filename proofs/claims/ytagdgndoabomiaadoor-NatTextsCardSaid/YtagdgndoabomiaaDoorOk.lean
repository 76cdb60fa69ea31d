/- What comes in, as plain data. Conditions: none. -/
import Derived.Test.YtagdgndoabomiaaDoorAb11
import Derived.Test.YtagdgndoabomiaaDoorTy
import Derived.Test.YtagdgndoabomiaaDoorMi
import Derived.Test.YtagdgndoabomiaaDoorRows
import Derived.ProofKit
set_option maxRecDepth 100000
namespace Go.Proofs.YtagdgndoabomiaaDoor.Ab
open Go Go.ChangeShapes Go.WideShapes Go.ChangeAt Go.RowKit

theorem small {n : Nat} (h : n ≤ maxLen) : n ≤ 9223372036854775807 := by unfold maxLen at h; omega
theorem row22 : isRow Tryd.prog 22 = false := by simp [isRow, Tryd.underlying22]
theorem row3 : isRow Tryd.prog 3 = false := by simp [isRow, Tryd.underlying3]
def Ok3 (x : Int) : Prop := (Lit.int .i64 x).wf = true
theorem tyof3 {c : List D} (h : Ty Tryd.prog 3 c) : ∃ x : Int, c = D.cells (.int .i64 x) ∧ Ok3 x := by
  obtain ⟨x, rfl, hw⟩ := h.inv_int Tryd.underlying3
  exact ⟨x, rfl, hw⟩
def Ok22 (x : (List Int)) : Prop := x.length ≤ 9223372036854775807 ∧ ∀ y ∈ x, Ok3 y
theorem tyof22 {c : List D} (h : Ty Tryd.prog 22 c) : ∃ x : (List Int), c = D.cells (.sl (x.map D.i)) ∧ Ok22 x := by
  obtain ⟨l, rfl, hl, hx⟩ := h.inv_sl Tryd.underlying22
  obtain ⟨ys, rfl, hy⟩ := list_of2 (f := fun y : Int => (D.i y).cells) (S := Ok3) (fun _ hc => tyof3 hc) hx
  refine ⟨ys, ?_, by simpa using small hl, hy⟩
  rw [List.map_map, row3]
  rfl
theorem row48 : isRow Tryd.prog 48 = false := by simp [isRow, Tryd.underlying48]
def Ok48 (x : Int) : Prop := (Lit.int .u16 x).wf = true
theorem tyof48 {c : List D} (h : Ty Tryd.prog 48 c) : ∃ x : Int, c = D.cells (.int .u16 x) ∧ Ok48 x := by
  obtain ⟨x, rfl, hw⟩ := h.inv_int Tryd.underlying48
  exact ⟨x, rfl, hw⟩
theorem row5 : isRow Tryd.prog 5 = false := by simp [isRow, Tryd.underlying5]
def Ok5 (x : Int) : Prop := (Lit.int .u8 x).wf = true
theorem tyof5 {c : List D} (h : Ty Tryd.prog 5 c) : ∃ x : Int, c = D.cells (.int .u8 x) ∧ Ok5 x := by
  obtain ⟨x, rfl, hw⟩ := h.inv_int Tryd.underlying5
  exact ⟨x, rfl, hw⟩
theorem row9 : isRow Tryd.prog 9 = false := by simp [isRow, Tryd.underlying9]
def Ok9 (x : List UInt8) : Prop := x.length ≤ 9223372036854775807
theorem tyof9 {c : List D} (h : Ty Tryd.prog 9 c) : ∃ x : (List UInt8), c = D.cells (.str x) ∧ Ok9 x := by
  obtain ⟨x, rfl, hl⟩ := h.inv_str Tryd.underlying9
  exact ⟨x, rfl, small hl⟩
end Go.Proofs.YtagdgndoabomiaaDoor.Ab
