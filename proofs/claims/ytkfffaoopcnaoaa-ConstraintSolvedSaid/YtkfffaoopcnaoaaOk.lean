/- What comes in, as plain data. Conditions: none. -/
import Derived.Test.YtkfffaoopcnaoaaAb11
import Derived.Test.YtkfffaoopcnaoaaTy
import Derived.Test.YtkfffaoopcnaoaaMi
import Derived.Test.YtkfffaoopcnaoaaRows
import Derived.ProofKit
set_option maxRecDepth 100000
namespace Go.Proofs.Ytkfffaoopcnaoaa.Ab
open Go Go.ChangeShapes Go.WideShapes Go.ChangeAt Go.RowKit

theorem small {n : Nat} (h : n ≤ maxLen) : n ≤ 9223372036854775807 := by unfold maxLen at h; omega
theorem row22 : isRow Try.prog 22 = false := by simp [isRow, Try.underlying22]
theorem row50 : isRow Try.prog 50 = true := by simp [isRow, Try.underlying50]
theorem row3 : isRow Try.prog 3 = false := by simp [isRow, Try.underlying3]
def Ok3 (_ : Nat) (x : Int) : Prop := (Lit.int .i64 x).wf = true
theorem tyof3 {N : Nat} {c : List D} (h : Ty Try.prog N 3 c) : ∃ x : Int, c = D.cells (.int .i64 x) ∧ Ok3 N x := by
  obtain ⟨x, rfl, hw⟩ := h.inv_int Try.underlying3
  exact ⟨x, rfl, hw⟩
def Ok50 (N : Nat) (x : SConstraint) : Prop := Ok3 N x.fKind ∧ Ok3 N x.fA ∧ Ok3 N x.fB
theorem parts50 : partsOf Try.prog 50 = [(0, 3), (1, 3), (2, 3)] := by simp [partsOf, Try.underlying50] <;> rfl
theorem tyof50 {N : Nat} {c : List D} (h : Ty Try.prog N 50 c) : ∃ x : SConstraint, c = D.cells (SConstraint.e x) ∧ Ok50 N x := by
  obtain ⟨a0, _, h0, ⟨a1, _, h1, ⟨a2, _, h2, rfl, rfl⟩, rfl⟩, rfl⟩ := h.inv_row row50 parts50
  obtain ⟨x0, rfl, o0⟩ := tyof3 h0
  obtain ⟨x1, rfl, o1⟩ := tyof3 h1
  obtain ⟨x2, rfl, o2⟩ := tyof3 h2
  exact ⟨⟨x0, x1, x2⟩, rfl, ⟨o0, o1, o2⟩⟩
def Ok22 (N : Nat) (x : (List SConstraint)) : Prop := x.length ≤ N ∧ ∀ y ∈ x, Ok50 N y
theorem tyof22 {N : Nat} {c : List D} (h : Ty Try.prog N 22 c) : ∃ x : (List SConstraint), c = D.cells (.sl (x.map SConstraint.e)) ∧ Ok22 N x := by
  obtain ⟨l, rfl, hl, hx⟩ := h.inv_sl Try.underlying22
  obtain ⟨ys, rfl, hy⟩ := list_of2 (f := fun y : SConstraint => (SConstraint.e y).cells) (S := Ok50 N) (fun _ hc => tyof50 hc) hx
  refine ⟨ys, ?_, by simpa using hl, hy⟩
  rw [List.map_map, row50]
  rfl
theorem row42 : isRow Try.prog 42 = false := by simp [isRow, Try.underlying42]
def Ok42 (N : Nat) (x : (List Int)) : Prop := x.length ≤ N ∧ ∀ y ∈ x, Ok3 N y
theorem tyof42 {N : Nat} {c : List D} (h : Ty Try.prog N 42 c) : ∃ x : (List Int), c = D.cells (.sl (x.map D.i)) ∧ Ok42 N x := by
  obtain ⟨l, rfl, hl, hx⟩ := h.inv_sl Try.underlying42
  obtain ⟨ys, rfl, hy⟩ := list_of2 (f := fun y : Int => (D.i y).cells) (S := Ok3 N) (fun _ hc => tyof3 hc) hx
  refine ⟨ys, ?_, by simpa using hl, hy⟩
  rw [List.map_map, row3]
  rfl
end Go.Proofs.Ytkfffaoopcnaoaa.Ab
