/- What comes in, as plain data. Conditions: none. -/
import Derived.Test.YtjinohfopjlgkaaAb11
import Derived.Test.YtjinohfopjlgkaaTy
import Derived.Test.YtjinohfopjlgkaaMi
import Derived.Test.YtjinohfopjlgkaaRows
import Derived.ProofKit
set_option maxRecDepth 100000
namespace Go.Proofs.Ytjinohfopjlgkaa.Ab
open Go Go.ChangeShapes Go.WideShapes Go.ChangeAt Go.RowKit

theorem small {n : Nat} (h : n ≤ maxLen) : n ≤ 9223372036854775807 := by unfold maxLen at h; omega
theorem row53 : isRow Try.prog 53 = true := by simp [isRow, Try.underlying53]
def Ok3 (_ : Nat) (x : Int) : Prop := (Lit.int .i64 x).wf = true
theorem tyof3 {N : Nat} {c : List D} (h : Ty Try.prog N 3 c) : ∃ x : Int, c = D.cells (.int .i64 x) ∧ Ok3 N x := by
  obtain ⟨x, rfl, hw⟩ := h.inv_int Try.underlying3
  exact ⟨x, rfl, hw⟩
def Ok53 (N : Nat) (x : SItem) : Prop := Ok3 N x.fN ∧ Ok3 N x.fDoc
theorem parts53 : partsOf Try.prog 53 = [(0, 3), (1, 3)] := by simp [partsOf, Try.underlying53] <;> rfl
theorem tyof53 {N : Nat} {c : List D} (h : Ty Try.prog N 53 c) : ∃ x : SItem, c = D.cells (SItem.e x) ∧ Ok53 N x := by
  obtain ⟨a0, _, h0, ⟨a1, _, h1, rfl, rfl⟩, rfl⟩ := h.inv_row row53 parts53
  obtain ⟨x0, rfl, o0⟩ := tyof3 h0
  obtain ⟨x1, rfl, o1⟩ := tyof3 h1
  exact ⟨⟨x0, x1⟩, rfl, ⟨o0, o1⟩⟩
theorem row41 : isRow Try.prog 41 = false := by simp [isRow, Try.underlying41]
theorem row83 : isRow Try.prog 83 = true := by simp [isRow, Try.underlying83]
def Ok4 (_ : Nat) (_ : Bool) : Prop := True
theorem tyof4 {N : Nat} {c : List D} (h : Ty Try.prog N 4 c) : ∃ x : Bool, c = D.cells (.bool x) ∧ Ok4 N x := by
  obtain ⟨x, rfl⟩ := h.inv_bool Try.underlying4
  exact ⟨x, rfl, trivial⟩
def Ok83 (N : Nat) (x : SOp) : Prop := Ok4 N x.fRemove ∧ Ok53 N x.fItem
theorem parts83 : partsOf Try.prog 83 = [(0, 4), (1, 53)] := by simp [partsOf, Try.underlying83] <;> rfl
theorem tyof83 {N : Nat} {c : List D} (h : Ty Try.prog N 83 c) : ∃ x : SOp, c = D.cells (SOp.e x) ∧ Ok83 N x := by
  obtain ⟨a0, _, h0, ⟨a1, _, h1, rfl, rfl⟩, rfl⟩ := h.inv_row row83 parts83
  obtain ⟨x0, rfl, o0⟩ := tyof4 h0
  obtain ⟨x1, rfl, o1⟩ := tyof53 h1
  exact ⟨⟨x0, x1⟩, rfl, ⟨o0, o1⟩⟩
def Ok41 (N : Nat) (x : (List SOp)) : Prop := x.length ≤ N ∧ ∀ y ∈ x, Ok83 N y
theorem tyof41 {N : Nat} {c : List D} (h : Ty Try.prog N 41 c) : ∃ x : (List SOp), c = D.cells (.sl (x.map SOp.e)) ∧ Ok41 N x := by
  obtain ⟨l, rfl, hl, hx⟩ := h.inv_sl Try.underlying41
  obtain ⟨ys, rfl, hy⟩ := list_of2 (f := fun y : SOp => (SOp.e y).cells) (S := Ok83 N) (fun _ hc => tyof83 hc) hx
  refine ⟨ys, ?_, by simpa using hl, hy⟩
  rw [List.map_map, row83]
  rfl
theorem row42 : isRow Try.prog 42 = true := by simp [isRow, Try.underlying42]
def Ok42 (N : Nat) (x : A3) : Prop := Ok3 N x.e0 ∧ Ok3 N x.e1 ∧ Ok3 N x.e2
theorem parts42 : partsOf Try.prog 42 = [(0, 3), (1, 3), (2, 3)] := by simp [partsOf, Try.underlying42] <;> rfl
theorem tyof42 {N : Nat} {c : List D} (h : Ty Try.prog N 42 c) : ∃ x : A3, c = D.cells (A3.e x) ∧ Ok42 N x := by
  obtain ⟨a0, _, h0, ⟨a1, _, h1, ⟨a2, _, h2, rfl, rfl⟩, rfl⟩, rfl⟩ := h.inv_row row42 parts42
  obtain ⟨x0, rfl, o0⟩ := tyof3 h0
  obtain ⟨x1, rfl, o1⟩ := tyof3 h1
  obtain ⟨x2, rfl, o2⟩ := tyof3 h2
  exact ⟨⟨x0, x1, x2⟩, rfl, ⟨o0, o1, o2⟩⟩
end Go.Proofs.Ytjinohfopjlgkaa.Ab
