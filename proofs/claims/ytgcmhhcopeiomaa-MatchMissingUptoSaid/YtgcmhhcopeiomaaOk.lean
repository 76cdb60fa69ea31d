/- What comes in, as plain data. Conditions: none. -/
import Derived.Test.YtgcmhhcopeiomaaAb11
import Derived.Test.YtgcmhhcopeiomaaTy
import Derived.Test.YtgcmhhcopeiomaaMi
import Derived.Test.YtgcmhhcopeiomaaRows
import Derived.ProofKit
set_option maxRecDepth 100000
namespace Go.Proofs.Ytgcmhhcopeiomaa.Ab
open Go Go.ChangeShapes Go.WideShapes Go.ChangeAt Go.RowKit

theorem small {n : Nat} (h : n ≤ maxLen) : n ≤ 9223372036854775807 := by unfold maxLen at h; omega
theorem row49 : isRow Try.prog 49 = true := by simp [isRow, Try.underlying49]
theorem row47 : isRow Try.prog 47 = true := by simp [isRow, Try.underlying47]
theorem row46 : isRow Try.prog 46 = true := by simp [isRow, Try.underlying46]
theorem row3 : isRow Try.prog 3 = false := by simp [isRow, Try.underlying3]
def Ok3 (_ : Nat) (x : Int) : Prop := (Lit.int .i64 x).wf = true
theorem tyof3 {N : Nat} {c : List D} (h : Ty Try.prog N 3 c) : ∃ x : Int, c = D.cells (.int .i64 x) ∧ Ok3 N x := by
  obtain ⟨x, rfl, hw⟩ := h.inv_int Try.underlying3
  exact ⟨x, rfl, hw⟩
def Ok46 (N : Nat) (x : SRatio) : Prop := Ok3 N x.fNum ∧ Ok3 N x.fDen
theorem parts46 : partsOf Try.prog 46 = [(0, 3), (1, 3)] := by simp [partsOf, Try.underlying46] <;> rfl
theorem tyof46 {N : Nat} {c : List D} (h : Ty Try.prog N 46 c) : ∃ x : SRatio, c = D.cells (SRatio.e x) ∧ Ok46 N x := by
  obtain ⟨a0, _, h0, ⟨a1, _, h1, rfl, rfl⟩, rfl⟩ := h.inv_row row46 parts46
  obtain ⟨x0, rfl, o0⟩ := tyof3 h0
  obtain ⟨x1, rfl, o1⟩ := tyof3 h1
  exact ⟨⟨x0, x1⟩, rfl, ⟨o0, o1⟩⟩
def Ok47 (N : Nat) (x : A3) : Prop := Ok46 N x.e0 ∧ Ok46 N x.e1 ∧ Ok46 N x.e2
theorem parts47 : partsOf Try.prog 47 = [(0, 46), (2, 46), (4, 46)] := by simp [partsOf, Try.underlying47] <;> rfl
theorem tyof47 {N : Nat} {c : List D} (h : Ty Try.prog N 47 c) : ∃ x : A3, c = D.cells (A3.e x) ∧ Ok47 N x := by
  obtain ⟨a0, _, h0, ⟨a1, _, h1, ⟨a2, _, h2, rfl, rfl⟩, rfl⟩, rfl⟩ := h.inv_row row47 parts47
  obtain ⟨x0, rfl, o0⟩ := tyof46 h0
  obtain ⟨x1, rfl, o1⟩ := tyof46 h1
  obtain ⟨x2, rfl, o2⟩ := tyof46 h2
  exact ⟨⟨x0, x1, x2⟩, rfl, ⟨o0, o1, o2⟩⟩
def Ok49 (N : Nat) (x : A72) : Prop := Ok47 N x.e0 ∧ Ok47 N x.e1 ∧ Ok47 N x.e2 ∧ Ok47 N x.e3 ∧ Ok47 N x.e4 ∧ Ok47 N x.e5 ∧ Ok47 N x.e6
theorem parts49 : partsOf Try.prog 49 = [(0, 47), (6, 47), (12, 47), (18, 47), (24, 47), (30, 47), (36, 47)] := by simp [partsOf, Try.underlying49] <;> rfl
theorem tyof49 {N : Nat} {c : List D} (h : Ty Try.prog N 49 c) : ∃ x : A72, c = D.cells (A72.e x) ∧ Ok49 N x := by
  obtain ⟨a0, _, h0, ⟨a1, _, h1, ⟨a2, _, h2, ⟨a3, _, h3, ⟨a4, _, h4, ⟨a5, _, h5, ⟨a6, _, h6, rfl, rfl⟩, rfl⟩, rfl⟩, rfl⟩, rfl⟩, rfl⟩, rfl⟩ := h.inv_row row49 parts49
  obtain ⟨x0, rfl, o0⟩ := tyof47 h0
  obtain ⟨x1, rfl, o1⟩ := tyof47 h1
  obtain ⟨x2, rfl, o2⟩ := tyof47 h2
  obtain ⟨x3, rfl, o3⟩ := tyof47 h3
  obtain ⟨x4, rfl, o4⟩ := tyof47 h4
  obtain ⟨x5, rfl, o5⟩ := tyof47 h5
  obtain ⟨x6, rfl, o6⟩ := tyof47 h6
  exact ⟨⟨x0, x1, x2, x3, x4, x5, x6⟩, rfl, ⟨o0, o1, o2, o3, o4, o5, o6⟩⟩
theorem row27 : isRow Try.prog 27 = true := by simp [isRow, Try.underlying27]
def Ok27 (N : Nat) (x : A7) : Prop := Ok3 N x.e0 ∧ Ok3 N x.e1 ∧ Ok3 N x.e2 ∧ Ok3 N x.e3 ∧ Ok3 N x.e4 ∧ Ok3 N x.e5 ∧ Ok3 N x.e6
theorem parts27 : partsOf Try.prog 27 = [(0, 3), (1, 3), (2, 3), (3, 3), (4, 3), (5, 3), (6, 3)] := by simp [partsOf, Try.underlying27] <;> rfl
theorem tyof27 {N : Nat} {c : List D} (h : Ty Try.prog N 27 c) : ∃ x : A7, c = D.cells (A7.e x) ∧ Ok27 N x := by
  obtain ⟨a0, _, h0, ⟨a1, _, h1, ⟨a2, _, h2, ⟨a3, _, h3, ⟨a4, _, h4, ⟨a5, _, h5, ⟨a6, _, h6, rfl, rfl⟩, rfl⟩, rfl⟩, rfl⟩, rfl⟩, rfl⟩, rfl⟩ := h.inv_row row27 parts27
  obtain ⟨x0, rfl, o0⟩ := tyof3 h0
  obtain ⟨x1, rfl, o1⟩ := tyof3 h1
  obtain ⟨x2, rfl, o2⟩ := tyof3 h2
  obtain ⟨x3, rfl, o3⟩ := tyof3 h3
  obtain ⟨x4, rfl, o4⟩ := tyof3 h4
  obtain ⟨x5, rfl, o5⟩ := tyof3 h5
  obtain ⟨x6, rfl, o6⟩ := tyof3 h6
  exact ⟨⟨x0, x1, x2, x3, x4, x5, x6⟩, rfl, ⟨o0, o1, o2, o3, o4, o5, o6⟩⟩
theorem row25 : isRow Try.prog 25 = true := by simp [isRow, Try.underlying25]
theorem row22 : isRow Try.prog 22 = false := by simp [isRow, Try.underlying22]
theorem row9 : isRow Try.prog 9 = false := by simp [isRow, Try.underlying9]
def Ok9 (N : Nat) (x : List UInt8) : Prop := x.length ≤ N
theorem tyof9 {N : Nat} {c : List D} (h : Ty Try.prog N 9 c) : ∃ x : (List UInt8), c = D.cells (.str x) ∧ Ok9 N x := by
  obtain ⟨x, rfl, hl⟩ := h.inv_str Try.underlying9
  exact ⟨x, rfl, hl⟩
def Ok22 (N : Nat) (x : (List (List UInt8))) : Prop := x.length ≤ N ∧ ∀ y ∈ x, Ok9 N y
theorem tyof22 {N : Nat} {c : List D} (h : Ty Try.prog N 22 c) : ∃ x : (List (List UInt8)), c = D.cells (.sl (x.map D.str)) ∧ Ok22 N x := by
  obtain ⟨l, rfl, hl, hx⟩ := h.inv_sl Try.underlying22
  obtain ⟨ys, rfl, hy⟩ := list_of2 (f := fun y : (List UInt8) => (D.str y).cells) (S := Ok9 N) (fun _ hc => tyof9 hc) hx
  refine ⟨ys, ?_, by simpa using hl, hy⟩
  rw [List.map_map, row9]
  rfl
theorem row23 : isRow Try.prog 23 = false := by simp [isRow, Try.underlying23]
def Ok23 (N : Nat) (x : (List Int)) : Prop := x.length ≤ N ∧ ∀ y ∈ x, Ok3 N y
theorem tyof23 {N : Nat} {c : List D} (h : Ty Try.prog N 23 c) : ∃ x : (List Int), c = D.cells (.sl (x.map D.i)) ∧ Ok23 N x := by
  obtain ⟨l, rfl, hl, hx⟩ := h.inv_sl Try.underlying23
  obtain ⟨ys, rfl, hy⟩ := list_of2 (f := fun y : Int => (D.i y).cells) (S := Ok3 N) (fun _ hc => tyof3 hc) hx
  refine ⟨ys, ?_, by simpa using hl, hy⟩
  rw [List.map_map, row3]
  rfl
def Ok25 (N : Nat) (x : SFeatures) : Prop := Ok3 N x.fID ∧ Ok22 N x.fTitle ∧ Ok9 N x.fAuthor ∧ Ok23 N x.fYears ∧ Ok22 N x.fIsbns ∧ Ok22 N x.fLangs ∧ Ok22 N x.fPublisher ∧ Ok22 N x.fEdition
theorem parts25 : partsOf Try.prog 25 = [(0, 3), (1, 22), (2, 9), (3, 23), (4, 22), (5, 22), (6, 22), (7, 22)] := by simp [partsOf, Try.underlying25] <;> rfl
theorem tyof25 {N : Nat} {c : List D} (h : Ty Try.prog N 25 c) : ∃ x : SFeatures, c = D.cells (SFeatures.e x) ∧ Ok25 N x := by
  obtain ⟨a0, _, h0, ⟨a1, _, h1, ⟨a2, _, h2, ⟨a3, _, h3, ⟨a4, _, h4, ⟨a5, _, h5, ⟨a6, _, h6, ⟨a7, _, h7, rfl, rfl⟩, rfl⟩, rfl⟩, rfl⟩, rfl⟩, rfl⟩, rfl⟩, rfl⟩ := h.inv_row row25 parts25
  obtain ⟨x0, rfl, o0⟩ := tyof3 h0
  obtain ⟨x1, rfl, o1⟩ := tyof22 h1
  obtain ⟨x2, rfl, o2⟩ := tyof9 h2
  obtain ⟨x3, rfl, o3⟩ := tyof23 h3
  obtain ⟨x4, rfl, o4⟩ := tyof22 h4
  obtain ⟨x5, rfl, o5⟩ := tyof22 h5
  obtain ⟨x6, rfl, o6⟩ := tyof22 h6
  obtain ⟨x7, rfl, o7⟩ := tyof22 h7
  exact ⟨⟨x0, x1, x2, x3, x4, x5, x6, x7⟩, rfl, ⟨o0, o1, o2, o3, o4, o5, o6, o7⟩⟩
theorem row5 : isRow Try.prog 5 = false := by simp [isRow, Try.underlying5]
def Ok5 (_ : Nat) (x : Int) : Prop := (Lit.int .u8 x).wf = true
theorem tyof5 {N : Nat} {c : List D} (h : Ty Try.prog N 5 c) : ∃ x : Int, c = D.cells (.int .u8 x) ∧ Ok5 N x := by
  obtain ⟨x, rfl, hw⟩ := h.inv_int Try.underlying5
  exact ⟨x, rfl, hw⟩
end Go.Proofs.Ytgcmhhcopeiomaa.Ab
