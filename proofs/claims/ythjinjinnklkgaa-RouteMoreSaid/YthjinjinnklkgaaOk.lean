/- What comes in, as plain data. Conditions: none. -/
import Derived.Test.YthjinjinnklkgaaAb11
import Derived.Test.YthjinjinnklkgaaTy
import Derived.Test.YthjinjinnklkgaaMi
import Derived.Test.YthjinjinnklkgaaRows
import Derived.ProofKit
set_option maxRecDepth 100000
namespace Go.Proofs.Ythjinjinnklkgaa.Ab
open Go Go.ChangeShapes Go.WideShapes Go.ChangeAt Go.RowKit

theorem small {n : Nat} (h : n ≤ maxLen) : n ≤ 9223372036854775807 := by unfold maxLen at h; omega
theorem row25 : isRow Try.prog 25 = true := by simp [isRow, Try.underlying25]
theorem row23 : isRow Try.prog 23 = false := by simp [isRow, Try.underlying23]
theorem row3 : isRow Try.prog 3 = false := by simp [isRow, Try.underlying3]
def Ok3 (_ : Nat) (x : Int) : Prop := (Lit.int .i64 x).wf = true
theorem tyof3 {N : Nat} {c : List D} (h : Ty Try.prog N 3 c) : ∃ x : Int, c = D.cells (.int .i64 x) ∧ Ok3 N x := by
  obtain ⟨x, rfl, hw⟩ := h.inv_int Try.underlying3
  exact ⟨x, rfl, hw⟩
def Ok23 (N : Nat) (x : (List Int)) : Prop := x.length ≤ N ∧ ∀ y ∈ x, Ok3 N y
theorem tyof23 {N : Nat} {c : List D} (h : Ty Try.prog N 23 c) : ∃ x : (List Int), c = D.cells (.sl (x.map D.i)) ∧ Ok23 N x := by
  obtain ⟨l, rfl, hl, hx⟩ := h.inv_sl Try.underlying23
  obtain ⟨ys, rfl, hy⟩ := list_of2 (f := fun y : Int => (D.i y).cells) (S := Ok3 N) (fun _ hc => tyof3 hc) hx
  refine ⟨ys, ?_, by simpa using hl, hy⟩
  rw [List.map_map, row3]
  rfl
def Ok22 (N : Nat) (x : (List (List Int))) : Prop := x.length ≤ N ∧ ∀ y ∈ x, Ok23 N y
theorem tyof22 {N : Nat} {c : List D} (h : Ty Try.prog N 22 c) : ∃ x : (List (List Int)), c = D.cells (.sl (x.map (esl D.i))) ∧ Ok22 N x := by
  obtain ⟨l, rfl, hl, hx⟩ := h.inv_sl Try.underlying22
  obtain ⟨ys, rfl, hy⟩ := list_of2 (f := fun y : (List Int) => ((esl D.i) y).cells) (S := Ok23 N) (fun _ hc => tyof23 hc) hx
  refine ⟨ys, ?_, by simpa using hl, hy⟩
  rw [List.map_map, row23]
  rfl
def Ok25 (N : Nat) (x : SProblem) : Prop := Ok22 N x.fCosts ∧ Ok23 N x.fRoom ∧ Ok3 N x.fPenalty
theorem parts25 : partsOf Try.prog 25 = [(0, 22), (1, 23), (2, 3)] := by simp [partsOf, Try.underlying25] <;> rfl
theorem tyof25 {N : Nat} {c : List D} (h : Ty Try.prog N 25 c) : ∃ x : SProblem, c = D.cells (SProblem.e x) ∧ Ok25 N x := by
  obtain ⟨a0, _, h0, ⟨a1, _, h1, ⟨a2, _, h2, rfl, rfl⟩, rfl⟩, rfl⟩ := h.inv_row row25 parts25
  obtain ⟨x0, rfl, o0⟩ := tyof22 h0
  obtain ⟨x1, rfl, o1⟩ := tyof23 h1
  obtain ⟨x2, rfl, o2⟩ := tyof3 h2
  exact ⟨⟨x0, x1, x2⟩, rfl, ⟨o0, o1, o2⟩⟩
theorem row47 : isRow Try.prog 47 = true := by simp [isRow, Try.underlying47]
def Ok5 (_ : Nat) (x : Int) : Prop := (Lit.int .u8 x).wf = true
theorem tyof5 {N : Nat} {c : List D} (h : Ty Try.prog N 5 c) : ∃ x : Int, c = D.cells (.int .u8 x) ∧ Ok5 N x := by
  obtain ⟨x, rfl, hw⟩ := h.inv_int Try.underlying5
  exact ⟨x, rfl, hw⟩
def Ok47 (N : Nat) (x : A22) : Prop := Ok5 N x.e0 ∧ Ok5 N x.e1
theorem parts47 : partsOf Try.prog 47 = [(0, 5), (1, 5)] := by simp [partsOf, Try.underlying47] <;> rfl
theorem tyof47 {N : Nat} {c : List D} (h : Ty Try.prog N 47 c) : ∃ x : A22, c = D.cells (A22.e x) ∧ Ok47 N x := by
  obtain ⟨a0, _, h0, ⟨a1, _, h1, rfl, rfl⟩, rfl⟩ := h.inv_row row47 parts47
  obtain ⟨x0, rfl, o0⟩ := tyof5 h0
  obtain ⟨x1, rfl, o1⟩ := tyof5 h1
  exact ⟨⟨x0, x1⟩, rfl, ⟨o0, o1⟩⟩
end Go.Proofs.Ythjinjinnklkgaa.Ab
