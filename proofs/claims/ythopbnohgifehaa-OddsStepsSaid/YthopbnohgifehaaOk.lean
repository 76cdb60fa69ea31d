/- What comes in, as plain data. Conditions: none. -/
import Derived.Test.YthopbnohgifehaaAb11
import Derived.Test.YthopbnohgifehaaTy
import Derived.Test.YthopbnohgifehaaMi
import Derived.Test.YthopbnohgifehaaRows
import Derived.ProofKit
set_option maxRecDepth 100000
namespace Go.Proofs.Ythopbnohgifehaa.Ab
open Go Go.ChangeShapes Go.WideShapes Go.ChangeAt Go.RowKit

theorem small {n : Nat} (h : n ≤ maxLen) : n ≤ 9223372036854775807 := by unfold maxLen at h; omega
theorem row22 : isRow Try.prog 22 = false := by simp [isRow, Try.underlying22]
theorem row54 : isRow Try.prog 54 = true := by simp [isRow, Try.underlying54]
theorem row3 : isRow Try.prog 3 = false := by simp [isRow, Try.underlying3]
def Ok3 (x : Int) : Prop := (Lit.int .i64 x).wf = true
theorem tyof3 {c : List D} (h : Ty Try.prog 3 c) : ∃ x : Int, c = D.cells (.int .i64 x) ∧ Ok3 x := by
  obtain ⟨x, rfl, hw⟩ := h.inv_int Try.underlying3
  exact ⟨x, rfl, hw⟩
def Ok54 (x : SRatio) : Prop := Ok3 x.fNum ∧ Ok3 x.fDen
theorem parts54 : partsOf Try.prog 54 = [(0, 3), (1, 3)] := by simp [partsOf, Try.underlying54] <;> rfl
theorem tyof54 {c : List D} (h : Ty Try.prog 54 c) : ∃ x : SRatio, c = D.cells (SRatio.e x) ∧ Ok54 x := by
  obtain ⟨a0, _, h0, ⟨a1, _, h1, rfl, rfl⟩, rfl⟩ := h.inv_row row54 parts54
  obtain ⟨x0, rfl, o0⟩ := tyof3 h0
  obtain ⟨x1, rfl, o1⟩ := tyof3 h1
  exact ⟨⟨x0, x1⟩, rfl, ⟨o0, o1⟩⟩
def Ok22 (x : (List SRatio)) : Prop := x.length ≤ 9223372036854775807 ∧ ∀ y ∈ x, Ok54 y
theorem tyof22 {c : List D} (h : Ty Try.prog 22 c) : ∃ x : (List SRatio), c = D.cells (.sl (x.map SRatio.e)) ∧ Ok22 x := by
  obtain ⟨l, rfl, hl, hx⟩ := h.inv_sl Try.underlying22
  obtain ⟨ys, rfl, hy⟩ := list_of2 (f := fun y : SRatio => (SRatio.e y).cells) (S := Ok54) (fun _ hc => tyof54 hc) hx
  refine ⟨ys, ?_, by simpa using small hl, hy⟩
  rw [List.map_map, row54]
  rfl
theorem row5 : isRow Try.prog 5 = false := by simp [isRow, Try.underlying5]
def Ok5 (x : Int) : Prop := (Lit.int .u8 x).wf = true
theorem tyof5 {c : List D} (h : Ty Try.prog 5 c) : ∃ x : Int, c = D.cells (.int .u8 x) ∧ Ok5 x := by
  obtain ⟨x, rfl, hw⟩ := h.inv_int Try.underlying5
  exact ⟨x, rfl, hw⟩
theorem row51 : isRow Try.prog 51 = false := by simp [isRow, Try.underlying51]
def Ok51 (x : Int) : Prop := (Lit.int .u16 x).wf = true
theorem tyof51 {c : List D} (h : Ty Try.prog 51 c) : ∃ x : Int, c = D.cells (.int .u16 x) ∧ Ok51 x := by
  obtain ⟨x, rfl, hw⟩ := h.inv_int Try.underlying51
  exact ⟨x, rfl, hw⟩
end Go.Proofs.Ythopbnohgifehaa.Ab
