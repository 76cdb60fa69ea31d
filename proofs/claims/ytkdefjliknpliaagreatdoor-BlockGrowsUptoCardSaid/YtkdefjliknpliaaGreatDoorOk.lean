/- What comes in, as plain data. Conditions: none. -/
import Derived.Test.YtkdefjliknpliaaGreatDoorAb11
import Derived.Test.YtkdefjliknpliaaGreatDoorTy
import Derived.Test.YtkdefjliknpliaaGreatDoorMi
import Derived.Test.YtkdefjliknpliaaGreatDoorRows
import Derived.ProofKit
set_option maxRecDepth 100000
namespace Go.Proofs.YtkdefjliknpliaaGreatDoor.Ab
open Go Go.ChangeShapes Go.WideShapes Go.ChangeAt Go.RowKit
theorem small {n : Nat} (h : n ≤ maxLen) : n ≤ 9223372036854775807 := by unfold maxLen at h; omega
theorem row22 : isRow Tryz.prog 22 = false := by simp [isRow, Tryz.underlying22]
theorem row40 : isRow Tryz.prog 40 = true := by simp [isRow, Tryz.underlying40]
theorem row3 : isRow Tryz.prog 3 = false := by simp [isRow, Tryz.underlying3]
def Ok3 (_ : Nat) (x : Int) : Prop := (Lit.int .i64 x).wf = true
theorem tyof3 {N : Nat} {c : List D} (h : Ty Tryz.prog N 3 c) : ∃ x : Int, c = D.cells (.int .i64 x) ∧ Ok3 N x := by
  obtain ⟨x, rfl, hw⟩ := h.inv_int Tryz.underlying3
  exact ⟨x, rfl, hw⟩
theorem row9 : isRow Tryz.prog 9 = false := by simp [isRow, Tryz.underlying9]
def Ok9 (N : Nat) (x : List UInt8) : Prop := x.length ≤ N
theorem tyof9 {N : Nat} {c : List D} (h : Ty Tryz.prog N 9 c) : ∃ x : (List UInt8), c = D.cells (.str x) ∧ Ok9 N x := by
  obtain ⟨x, rfl, hl⟩ := h.inv_str Tryz.underlying9
  exact ⟨x, rfl, hl⟩
def Ok37 (N : Nat) (x : (List (List UInt8))) : Prop := x.length ≤ N ∧ ∀ y ∈ x, Ok9 N y
theorem tyof37 {N : Nat} {c : List D} (h : Ty Tryz.prog N 37 c) : ∃ x : (List (List UInt8)), c = D.cells (.sl (x.map D.str)) ∧ Ok37 N x := by
  obtain ⟨l, rfl, hl, hx⟩ := h.inv_sl Tryz.underlying37
  obtain ⟨ys, rfl, hy⟩ := list_of2 (f := fun y : (List UInt8) => (D.str y).cells) (S := Ok9 N) (fun _ hc => tyof9 hc) hx
  refine ⟨ys, ?_, by simpa using hl, hy⟩
  rw [List.map_map, row9]
  rfl
def Ok38 (N : Nat) (x : (List Int)) : Prop := x.length ≤ N ∧ ∀ y ∈ x, Ok3 N y
theorem tyof38 {N : Nat} {c : List D} (h : Ty Tryz.prog N 38 c) : ∃ x : (List Int), c = D.cells (.sl (x.map D.i)) ∧ Ok38 N x := by
  obtain ⟨l, rfl, hl, hx⟩ := h.inv_sl Tryz.underlying38
  obtain ⟨ys, rfl, hy⟩ := list_of2 (f := fun y : Int => (D.i y).cells) (S := Ok3 N) (fun _ hc => tyof3 hc) hx
  refine ⟨ys, ?_, by simpa using hl, hy⟩
  rw [List.map_map, row3]
  rfl
def Ok40 (N : Nat) (x : SFeatures) : Prop := Ok3 N x.fID ∧ Ok37 N x.fTitle ∧ Ok9 N x.fAuthor ∧ Ok38 N x.fYears ∧ Ok37 N x.fIsbns ∧ Ok37 N x.fLangs ∧ Ok37 N x.fPublisher ∧ Ok37 N x.fEdition
theorem parts40 : partsOf Tryz.prog 40 = [(0, 3), (1, 37), (2, 9), (3, 38), (4, 37), (5, 37), (6, 37), (7, 37)] := by simp [partsOf, Tryz.underlying40] <;> rfl
theorem tyof40 {N : Nat} {c : List D} (h : Ty Tryz.prog N 40 c) : ∃ x : SFeatures, c = D.cells (SFeatures.e x) ∧ Ok40 N x := by
  obtain ⟨a0, _, h0, ⟨a1, _, h1, ⟨a2, _, h2, ⟨a3, _, h3, ⟨a4, _, h4, ⟨a5, _, h5, ⟨a6, _, h6, ⟨a7, _, h7, rfl, rfl⟩, rfl⟩, rfl⟩, rfl⟩, rfl⟩, rfl⟩, rfl⟩, rfl⟩ := h.inv_row row40 parts40
  obtain ⟨x0, rfl, o0⟩ := tyof3 h0
  obtain ⟨x1, rfl, o1⟩ := tyof37 h1
  obtain ⟨x2, rfl, o2⟩ := tyof9 h2
  obtain ⟨x3, rfl, o3⟩ := tyof38 h3
  obtain ⟨x4, rfl, o4⟩ := tyof37 h4
  obtain ⟨x5, rfl, o5⟩ := tyof37 h5
  obtain ⟨x6, rfl, o6⟩ := tyof37 h6
  obtain ⟨x7, rfl, o7⟩ := tyof37 h7
  exact ⟨⟨x0, x1, x2, x3, x4, x5, x6, x7⟩, rfl, ⟨o0, o1, o2, o3, o4, o5, o6, o7⟩⟩
def Ok22 (N : Nat) (x : (List SFeatures)) : Prop := x.length ≤ N ∧ ∀ y ∈ x, Ok40 N y
theorem tyof22 {N : Nat} {c : List D} (h : Ty Tryz.prog N 22 c) : ∃ x : (List SFeatures), c = D.cells (.sl (x.map SFeatures.e)) ∧ Ok22 N x := by
  obtain ⟨l, rfl, hl, hx⟩ := h.inv_sl Tryz.underlying22
  obtain ⟨ys, rfl, hy⟩ := list_of2 (f := fun y : SFeatures => (SFeatures.e y).cells) (S := Ok40 N) (fun _ hc => tyof40 hc) hx
  refine ⟨ys, ?_, by simpa using hl, hy⟩
  rw [List.map_map, row40]
  rfl
def Ok5 (_ : Nat) (x : Int) : Prop := (Lit.int .u8 x).wf = true
theorem tyof5 {N : Nat} {c : List D} (h : Ty Tryz.prog N 5 c) : ∃ x : Int, c = D.cells (.int .u8 x) ∧ Ok5 N x := by
  obtain ⟨x, rfl, hw⟩ := h.inv_int Tryz.underlying5
  exact ⟨x, rfl, hw⟩
theorem row71 : isRow Tryz.prog 71 = true := by simp [isRow, Tryz.underlying71]
def Ok71 (N : Nat) (x : A2) : Prop := Ok5 N x.e0 ∧ Ok5 N x.e1
theorem parts71 : partsOf Tryz.prog 71 = [(0, 5), (1, 5)] := by simp [partsOf, Tryz.underlying71] <;> rfl
theorem tyof71 {N : Nat} {c : List D} (h : Ty Tryz.prog N 71 c) : ∃ x : A2, c = D.cells (A2.e x) ∧ Ok71 N x := by
  obtain ⟨a0, _, h0, ⟨a1, _, h1, rfl, rfl⟩, rfl⟩ := h.inv_row row71 parts71
  obtain ⟨x0, rfl, o0⟩ := tyof5 h0
  obtain ⟨x1, rfl, o1⟩ := tyof5 h1
  exact ⟨⟨x0, x1⟩, rfl, ⟨o0, o1⟩⟩
end Go.Proofs.YtkdefjliknpliaaGreatDoor.Ab
