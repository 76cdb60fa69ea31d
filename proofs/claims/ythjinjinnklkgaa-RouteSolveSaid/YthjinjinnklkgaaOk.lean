/- What comes in, as plain data. Conditions: none. -/
import Derived.Test.YthjinjinnklkgaaAb11
import Derived.Test.YthjinjinnklkgaaTy
import Derived.Test.YthjinjinnklkgaaMi
import Derived.Test.YthjinjinnklkgaaRows
import Derived.ProofKit
set_option maxRecDepth 100000
namespace Go.Proofs.Ythjinjinnklkgaa.Ab
open Go Go.ChangeShapes Go.WideShapes Go.ChangeAt Go.RowKit

theorem small {n : Nat} (h : n ≤ maxLen) : n ≤ 9223372036854775807 := by unfold maxLen at h; omega
theorem row25 : isRow Try.prog 25 = true := by simp [isRow, Try.underlying25]
theorem row22 : isRow Try.prog 22 = false := by simp [isRow, Try.underlying22]
theorem row23 : isRow Try.prog 23 = false := by simp [isRow, Try.underlying23]
theorem row3 : isRow Try.prog 3 = false := by simp [isRow, Try.underlying3]
def Ok3 (x : Int) : Prop := (Lit.int .i64 x).wf = true
theorem tyof3 {c : List D} (h : Ty Try.prog 3 c) : ∃ x : Int, c = D.cells (.int .i64 x) ∧ Ok3 x := by
  obtain ⟨x, rfl, hw⟩ := h.inv_int Try.underlying3
  exact ⟨x, rfl, hw⟩
def Ok23 (x : (List Int)) : Prop := x.length ≤ 9223372036854775807 ∧ ∀ y ∈ x, Ok3 y
theorem tyof23 {c : List D} (h : Ty Try.prog 23 c) : ∃ x : (List Int), c = D.cells (.sl (x.map D.i)) ∧ Ok23 x := by
  obtain ⟨l, rfl, hl, hx⟩ := h.inv_sl Try.underlying23
  obtain ⟨ys, rfl, hy⟩ := list_of2 (f := fun y : Int => (D.i y).cells) (S := Ok3) (fun _ hc => tyof3 hc) hx
  refine ⟨ys, ?_, by simpa using small hl, hy⟩
  rw [List.map_map, row3]
  rfl
def Ok22 (x : (List (List Int))) : Prop := x.length ≤ 9223372036854775807 ∧ ∀ y ∈ x, Ok23 y
theorem tyof22 {c : List D} (h : Ty Try.prog 22 c) : ∃ x : (List (List Int)), c = D.cells (.sl (x.map (esl D.i))) ∧ Ok22 x := by
  obtain ⟨l, rfl, hl, hx⟩ := h.inv_sl Try.underlying22
  obtain ⟨ys, rfl, hy⟩ := list_of2 (f := fun y : (List Int) => ((esl D.i) y).cells) (S := Ok23) (fun _ hc => tyof23 hc) hx
  refine ⟨ys, ?_, by simpa using small hl, hy⟩
  rw [List.map_map, row23]
  rfl
def Ok25 (x : SProblem) : Prop := Ok22 x.fCosts ∧ Ok23 x.fRoom ∧ Ok3 x.fPenalty
theorem parts25 : partsOf Try.prog 25 = [(0, 22), (1, 23), (2, 3)] := by simp [partsOf, Try.underlying25] <;> rfl
theorem tyof25 {c : List D} (h : Ty Try.prog 25 c) : ∃ x : SProblem, c = D.cells (SProblem.e x) ∧ Ok25 x := by
  obtain ⟨a0, _, h0, ⟨a1, _, h1, ⟨a2, _, h2, rfl, rfl⟩, rfl⟩, rfl⟩ := h.inv_row row25 parts25
  obtain ⟨x0, rfl, o0⟩ := tyof22 h0
  obtain ⟨x1, rfl, o1⟩ := tyof23 h1
  obtain ⟨x2, rfl, o2⟩ := tyof3 h2
  exact ⟨⟨x0, x1, x2⟩, rfl, ⟨o0, o1, o2⟩⟩
theorem row27 : isRow Try.prog 27 = true := by simp [isRow, Try.underlying27]
def Ok27 (x : SPrices) : Prop := Ok23 x.fAsks ∧ Ok23 x.fLenders
theorem parts27 : partsOf Try.prog 27 = [(0, 23), (1, 23)] := by simp [partsOf, Try.underlying27] <;> rfl
theorem tyof27 {c : List D} (h : Ty Try.prog 27 c) : ∃ x : SPrices, c = D.cells (SPrices.e x) ∧ Ok27 x := by
  obtain ⟨a0, _, h0, ⟨a1, _, h1, rfl, rfl⟩, rfl⟩ := h.inv_row row27 parts27
  obtain ⟨x0, rfl, o0⟩ := tyof23 h0
  obtain ⟨x1, rfl, o1⟩ := tyof23 h1
  exact ⟨⟨x0, x1⟩, rfl, ⟨o0, o1⟩⟩
theorem row9 : isRow Try.prog 9 = false := by simp [isRow, Try.underlying9]
def Ok9 (x : List UInt8) : Prop := x.length ≤ 9223372036854775807
theorem tyof9 {c : List D} (h : Ty Try.prog 9 c) : ∃ x : (List UInt8), c = D.cells (.str x) ∧ Ok9 x := by
  obtain ⟨x, rfl, hl⟩ := h.inv_str Try.underlying9
  exact ⟨x, rfl, small hl⟩
theorem row51 : isRow Try.prog 51 = true := by simp [isRow, Try.underlying51]
def Ok51 (x : A2) : Prop := Ok3 x.e0 ∧ Ok3 x.e1
theorem parts51 : partsOf Try.prog 51 = [(0, 3), (1, 3)] := by simp [partsOf, Try.underlying51] <;> rfl
theorem tyof51 {c : List D} (h : Ty Try.prog 51 c) : ∃ x : A2, c = D.cells (A2.e x) ∧ Ok51 x := by
  obtain ⟨a0, _, h0, ⟨a1, _, h1, rfl, rfl⟩, rfl⟩ := h.inv_row row51 parts51
  obtain ⟨x0, rfl, o0⟩ := tyof3 h0
  obtain ⟨x1, rfl, o1⟩ := tyof3 h1
  exact ⟨⟨x0, x1⟩, rfl, ⟨o0, o1⟩⟩
theorem row52 : isRow Try.prog 52 = false := by simp [isRow, Try.underlying52]
theorem row55 : isRow Try.prog 55 = true := by simp [isRow, Try.underlying55]
def Ok55 (x : SLender) : Prop := Ok9 x.fLibrary ∧ Ok51 x.fPlace ∧ Ok3 x.fLoad
theorem parts55 : partsOf Try.prog 55 = [(0, 9), (1, 51), (3, 3)] := by simp [partsOf, Try.underlying55] <;> rfl
theorem tyof55 {c : List D} (h : Ty Try.prog 55 c) : ∃ x : SLender, c = D.cells (SLender.e x) ∧ Ok55 x := by
  obtain ⟨a0, _, h0, ⟨a1, _, h1, ⟨a2, _, h2, rfl, rfl⟩, rfl⟩, rfl⟩ := h.inv_row row55 parts55
  obtain ⟨x0, rfl, o0⟩ := tyof9 h0
  obtain ⟨x1, rfl, o1⟩ := tyof51 h1
  obtain ⟨x2, rfl, o2⟩ := tyof3 h2
  exact ⟨⟨x0, x1, x2⟩, rfl, ⟨o0, o1, o2⟩⟩
def Ok52 (x : (List SLender)) : Prop := x.length ≤ 9223372036854775807 ∧ ∀ y ∈ x, Ok55 y
theorem tyof52 {c : List D} (h : Ty Try.prog 52 c) : ∃ x : (List SLender), c = D.cells (.sl (x.map SLender.e)) ∧ Ok52 x := by
  obtain ⟨l, rfl, hl, hx⟩ := h.inv_sl Try.underlying52
  obtain ⟨ys, rfl, hy⟩ := list_of2 (f := fun y : SLender => (SLender.e y).cells) (S := Ok55) (fun _ hc => tyof55 hc) hx
  refine ⟨ys, ?_, by simpa using small hl, hy⟩
  rw [List.map_map, row55]
  rfl
end Go.Proofs.Ythjinjinnklkgaa.Ab
