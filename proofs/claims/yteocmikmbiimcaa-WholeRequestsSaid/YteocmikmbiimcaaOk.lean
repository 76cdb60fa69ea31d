/- What comes in, as plain data. Conditions: none. -/
import Derived.Test.YteocmikmbiimcaaAb11
import Derived.Test.YteocmikmbiimcaaTy
import Derived.Test.YteocmikmbiimcaaMi
import Derived.Test.YteocmikmbiimcaaRows
import Derived.ProofKit
set_option maxRecDepth 100000
namespace Go.Proofs.Yteocmikmbiimcaa.Ab
open Go Go.ChangeShapes Go.WideShapes Go.ChangeAt Go.RowKit

theorem small {n : Nat} (h : n ≤ maxLen) : n ≤ 9223372036854775807 := by unfold maxLen at h; omega
theorem row9 : isRow Try.prog 9 = false := by simp [isRow, Try.underlying9]
def Ok9 (x : List UInt8) : Prop := x.length ≤ 9223372036854775807
theorem tyof9 {c : List D} (h : Ty Try.prog 9 c) : ∃ x : (List UInt8), c = D.cells (.str x) ∧ Ok9 x := by
  obtain ⟨x, rfl, hl⟩ := h.inv_str Try.underlying9
  exact ⟨x, rfl, small hl⟩
theorem row22 : isRow Try.prog 22 = true := by simp [isRow, Try.underlying22]
theorem row3 : isRow Try.prog 3 = false := by simp [isRow, Try.underlying3]
def Ok3 (x : Int) : Prop := (Lit.int .i64 x).wf = true
theorem tyof3 {c : List D} (h : Ty Try.prog 3 c) : ∃ x : Int, c = D.cells (.int .i64 x) ∧ Ok3 x := by
  obtain ⟨x, rfl, hw⟩ := h.inv_int Try.underlying3
  exact ⟨x, rfl, hw⟩
def Ok22 (x : A2) : Prop := Ok3 x.e0 ∧ Ok3 x.e1
theorem parts22 : partsOf Try.prog 22 = [(0, 3), (1, 3)] := by simp [partsOf, Try.underlying22] <;> rfl
theorem tyof22 {c : List D} (h : Ty Try.prog 22 c) : ∃ x : A2, c = D.cells (A2.e x) ∧ Ok22 x := by
  obtain ⟨a0, _, h0, ⟨a1, _, h1, rfl, rfl⟩, rfl⟩ := h.inv_row row22 parts22
  obtain ⟨x0, rfl, o0⟩ := tyof3 h0
  obtain ⟨x1, rfl, o1⟩ := tyof3 h1
  exact ⟨⟨x0, x1⟩, rfl, ⟨o0, o1⟩⟩
theorem row23 : isRow Try.prog 23 = false := by simp [isRow, Try.underlying23]
theorem row32 : isRow Try.prog 32 = true := by simp [isRow, Try.underlying32]
def Ok32 (x : SLender) : Prop := Ok9 x.fLibrary ∧ Ok22 x.fPlace ∧ Ok3 x.fLoad
theorem parts32 : partsOf Try.prog 32 = [(0, 9), (1, 22), (3, 3)] := by simp [partsOf, Try.underlying32] <;> rfl
theorem tyof32 {c : List D} (h : Ty Try.prog 32 c) : ∃ x : SLender, c = D.cells (SLender.e x) ∧ Ok32 x := by
  obtain ⟨a0, _, h0, ⟨a1, _, h1, ⟨a2, _, h2, rfl, rfl⟩, rfl⟩, rfl⟩ := h.inv_row row32 parts32
  obtain ⟨x0, rfl, o0⟩ := tyof9 h0
  obtain ⟨x1, rfl, o1⟩ := tyof22 h1
  obtain ⟨x2, rfl, o2⟩ := tyof3 h2
  exact ⟨⟨x0, x1, x2⟩, rfl, ⟨o0, o1, o2⟩⟩
def Ok23 (x : (List SLender)) : Prop := x.length ≤ 9223372036854775807 ∧ ∀ y ∈ x, Ok32 y
theorem tyof23 {c : List D} (h : Ty Try.prog 23 c) : ∃ x : (List SLender), c = D.cells (.sl (x.map SLender.e)) ∧ Ok23 x := by
  obtain ⟨l, rfl, hl, hx⟩ := h.inv_sl Try.underlying23
  obtain ⟨ys, rfl, hy⟩ := list_of2 (f := fun y : SLender => (SLender.e y).cells) (S := Ok32) (fun _ hc => tyof32 hc) hx
  refine ⟨ys, ?_, by simpa using small hl, hy⟩
  rw [List.map_map, row32]
  rfl
end Go.Proofs.Yteocmikmbiimcaa.Ab
