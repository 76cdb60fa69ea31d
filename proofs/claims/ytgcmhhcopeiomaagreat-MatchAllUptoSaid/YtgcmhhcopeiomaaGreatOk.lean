/- What comes in, as plain data. Conditions: none. -/
import Derived.Test.YtgcmhhcopeiomaaGreatAb11
import Derived.Test.YtgcmhhcopeiomaaGreatTy
import Derived.Test.YtgcmhhcopeiomaaGreatMi
import Derived.Test.YtgcmhhcopeiomaaGreatRows
import Derived.ProofKit
set_option maxRecDepth 100000
namespace Go.Proofs.YtgcmhhcopeiomaaGreat.Ab
open Go Go.ChangeShapes Go.WideShapes Go.ChangeAt Go.RowKit

theorem small {n : Nat} (h : n ≤ maxLen) : n ≤ 9223372036854775807 := by unfold maxLen at h; omega
theorem row25 : isRow Tryz.prog 25 = true := by simp [isRow, Tryz.underlying25]
theorem row3 : isRow Tryz.prog 3 = false := by simp [isRow, Tryz.underlying3]
def Ok3 (_ : Nat) (x : Int) : Prop := (Lit.int .i64 x).wf = true
theorem tyof3 {N : Nat} {c : List D} (h : Ty Tryz.prog N 3 c) : ∃ x : Int, c = D.cells (.int .i64 x) ∧ Ok3 N x := by
  obtain ⟨x, rfl, hw⟩ := h.inv_int Tryz.underlying3
  exact ⟨x, rfl, hw⟩
theorem row9 : isRow Tryz.prog 9 = false := by simp [isRow, Tryz.underlying9]
def Ok9 (N : Nat) (x : List UInt8) : Prop := x.length ≤ N
theorem tyof9 {N : Nat} {c : List D} (h : Ty Tryz.prog N 9 c) : ∃ x : (List UInt8), c = D.cells (.str x) ∧ Ok9 N x := by
  obtain ⟨x, rfl, hl⟩ := h.inv_str Tryz.underlying9
  exact ⟨x, rfl, hl⟩
def Ok22 (N : Nat) (x : (List (List UInt8))) : Prop := x.length ≤ N ∧ ∀ y ∈ x, Ok9 N y
theorem tyof22 {N : Nat} {c : List D} (h : Ty Tryz.prog N 22 c) : ∃ x : (List (List UInt8)), c = D.cells (.sl (x.map D.str)) ∧ Ok22 N x := by
  obtain ⟨l, rfl, hl, hx⟩ := h.inv_sl Tryz.underlying22
  obtain ⟨ys, rfl, hy⟩ := list_of2 (f := fun y : (List UInt8) => (D.str y).cells) (S := Ok9 N) (fun _ hc => tyof9 hc) hx
  refine ⟨ys, ?_, by simpa using hl, hy⟩
  rw [List.map_map, row9]
  rfl
def Ok23 (N : Nat) (x : (List Int)) : Prop := x.length ≤ N ∧ ∀ y ∈ x, Ok3 N y
theorem tyof23 {N : Nat} {c : List D} (h : Ty Tryz.prog N 23 c) : ∃ x : (List Int), c = D.cells (.sl (x.map D.i)) ∧ Ok23 N x := by
  obtain ⟨l, rfl, hl, hx⟩ := h.inv_sl Tryz.underlying23
  obtain ⟨ys, rfl, hy⟩ := list_of2 (f := fun y : Int => (D.i y).cells) (S := Ok3 N) (fun _ hc => tyof3 hc) hx
  refine ⟨ys, ?_, by simpa using hl, hy⟩
  rw [List.map_map, row3]
  rfl
def Ok25 (N : Nat) (x : SFeatures) : Prop := Ok3 N x.fID ∧ Ok22 N x.fTitle ∧ Ok9 N x.fAuthor ∧ Ok23 N x.fYears ∧ Ok22 N x.fIsbns ∧ Ok22 N x.fLangs ∧ Ok22 N x.fPublisher ∧ Ok22 N x.fEdition
theorem parts25 : partsOf Tryz.prog 25 = [(0, 3), (1, 22), (2, 9), (3, 23), (4, 22), (5, 22), (6, 22), (7, 22)] := by simp [partsOf, Tryz.underlying25] <;> rfl
theorem tyof25 {N : Nat} {c : List D} (h : Ty Tryz.prog N 25 c) : ∃ x : SFeatures, c = D.cells (SFeatures.e x) ∧ Ok25 N x := by
  obtain ⟨a0, _, h0, ⟨a1, _, h1, ⟨a2, _, h2, ⟨a3, _, h3, ⟨a4, _, h4, ⟨a5, _, h5, ⟨a6, _, h6, ⟨a7, _, h7, rfl, rfl⟩, rfl⟩, rfl⟩, rfl⟩, rfl⟩, rfl⟩, rfl⟩, rfl⟩ := h.inv_row row25 parts25
  obtain ⟨x0, rfl, o0⟩ := tyof3 h0
  obtain ⟨x1, rfl, o1⟩ := tyof22 h1
  obtain ⟨x2, rfl, o2⟩ := tyof9 h2
  obtain ⟨x3, rfl, o3⟩ := tyof23 h3
  obtain ⟨x4, rfl, o4⟩ := tyof22 h4
  obtain ⟨x5, rfl, o5⟩ := tyof22 h5
  obtain ⟨x6, rfl, o6⟩ := tyof22 h6
  obtain ⟨x7, rfl, o7⟩ := tyof22 h7
  exact ⟨⟨x0, x1, x2, x3, x4, x5, x6, x7⟩, rfl, ⟨o0, o1, o2, o3, o4, o5, o6, o7⟩⟩
theorem row43 : isRow Tryz.prog 43 = true := by simp [isRow, Tryz.underlying43]
theorem row41 : isRow Tryz.prog 41 = true := by simp [isRow, Tryz.underlying41]
theorem row40 : isRow Tryz.prog 40 = true := by simp [isRow, Tryz.underlying40]
def Ok40 (N : Nat) (x : SRatio) : Prop := Ok3 N x.fNum ∧ Ok3 N x.fDen
theorem parts40 : partsOf Tryz.prog 40 = [(0, 3), (1, 3)] := by simp [partsOf, Tryz.underlying40] <;> rfl
theorem tyof40 {N : Nat} {c : List D} (h : Ty Tryz.prog N 40 c) : ∃ x : SRatio, c = D.cells (SRatio.e x) ∧ Ok40 N x := by
  obtain ⟨a0, _, h0, ⟨a1, _, h1, rfl, rfl⟩, rfl⟩ := h.inv_row row40 parts40
  obtain ⟨x0, rfl, o0⟩ := tyof3 h0
  obtain ⟨x1, rfl, o1⟩ := tyof3 h1
  exact ⟨⟨x0, x1⟩, rfl, ⟨o0, o1⟩⟩
def Ok41 (N : Nat) (x : A3) : Prop := Ok40 N x.e0 ∧ Ok40 N x.e1 ∧ Ok40 N x.e2
theorem parts41 : partsOf Tryz.prog 41 = [(0, 40), (2, 40), (4, 40)] := by simp [partsOf, Tryz.underlying41] <;> rfl
theorem tyof41 {N : Nat} {c : List D} (h : Ty Tryz.prog N 41 c) : ∃ x : A3, c = D.cells (A3.e x) ∧ Ok41 N x := by
  obtain ⟨a0, _, h0, ⟨a1, _, h1, ⟨a2, _, h2, rfl, rfl⟩, rfl⟩, rfl⟩ := h.inv_row row41 parts41
  obtain ⟨x0, rfl, o0⟩ := tyof40 h0
  obtain ⟨x1, rfl, o1⟩ := tyof40 h1
  obtain ⟨x2, rfl, o2⟩ := tyof40 h2
  exact ⟨⟨x0, x1, x2⟩, rfl, ⟨o0, o1, o2⟩⟩
def Ok43 (N : Nat) (x : A72) : Prop := Ok41 N x.e0 ∧ Ok41 N x.e1 ∧ Ok41 N x.e2 ∧ Ok41 N x.e3 ∧ Ok41 N x.e4 ∧ Ok41 N x.e5 ∧ Ok41 N x.e6
theorem parts43 : partsOf Tryz.prog 43 = [(0, 41), (6, 41), (12, 41), (18, 41), (24, 41), (30, 41), (36, 41)] := by simp [partsOf, Tryz.underlying43] <;> rfl
theorem tyof43 {N : Nat} {c : List D} (h : Ty Tryz.prog N 43 c) : ∃ x : A72, c = D.cells (A72.e x) ∧ Ok43 N x := by
  obtain ⟨a0, _, h0, ⟨a1, _, h1, ⟨a2, _, h2, ⟨a3, _, h3, ⟨a4, _, h4, ⟨a5, _, h5, ⟨a6, _, h6, rfl, rfl⟩, rfl⟩, rfl⟩, rfl⟩, rfl⟩, rfl⟩, rfl⟩ := h.inv_row row43 parts43
  obtain ⟨x0, rfl, o0⟩ := tyof41 h0
  obtain ⟨x1, rfl, o1⟩ := tyof41 h1
  obtain ⟨x2, rfl, o2⟩ := tyof41 h2
  obtain ⟨x3, rfl, o3⟩ := tyof41 h3
  obtain ⟨x4, rfl, o4⟩ := tyof41 h4
  obtain ⟨x5, rfl, o5⟩ := tyof41 h5
  obtain ⟨x6, rfl, o6⟩ := tyof41 h6
  exact ⟨⟨x0, x1, x2, x3, x4, x5, x6⟩, rfl, ⟨o0, o1, o2, o3, o4, o5, o6⟩⟩
theorem row44 : isRow Tryz.prog 44 = false := by simp [isRow, Tryz.underlying44]
def Ok44 (N : Nat) (x : (List SFeatures)) : Prop := x.length ≤ N ∧ ∀ y ∈ x, Ok25 N y
theorem tyof44 {N : Nat} {c : List D} (h : Ty Tryz.prog N 44 c) : ∃ x : (List SFeatures), c = D.cells (.sl (x.map SFeatures.e)) ∧ Ok44 N x := by
  obtain ⟨l, rfl, hl, hx⟩ := h.inv_sl Tryz.underlying44
  obtain ⟨ys, rfl, hy⟩ := list_of2 (f := fun y : SFeatures => (SFeatures.e y).cells) (S := Ok25 N) (fun _ hc => tyof25 hc) hx
  refine ⟨ys, ?_, by simpa using hl, hy⟩
  rw [List.map_map, row25]
  rfl
theorem row45 : isRow Tryz.prog 45 = false := by simp [isRow, Tryz.underlying45]
theorem row60 : isRow Tryz.prog 60 = true := by simp [isRow, Tryz.underlying60]
def Ok60 (N : Nat) (x : SPair) : Prop := Ok3 N x.fA ∧ Ok3 N x.fB
theorem parts60 : partsOf Tryz.prog 60 = [(0, 3), (1, 3)] := by simp [partsOf, Tryz.underlying60] <;> rfl
theorem tyof60 {N : Nat} {c : List D} (h : Ty Tryz.prog N 60 c) : ∃ x : SPair, c = D.cells (SPair.e x) ∧ Ok60 N x := by
  obtain ⟨a0, _, h0, ⟨a1, _, h1, rfl, rfl⟩, rfl⟩ := h.inv_row row60 parts60
  obtain ⟨x0, rfl, o0⟩ := tyof3 h0
  obtain ⟨x1, rfl, o1⟩ := tyof3 h1
  exact ⟨⟨x0, x1⟩, rfl, ⟨o0, o1⟩⟩
def Ok45 (N : Nat) (x : (List SPair)) : Prop := x.length ≤ N ∧ ∀ y ∈ x, Ok60 N y
theorem tyof45 {N : Nat} {c : List D} (h : Ty Tryz.prog N 45 c) : ∃ x : (List SPair), c = D.cells (.sl (x.map SPair.e)) ∧ Ok45 N x := by
  obtain ⟨l, rfl, hl, hx⟩ := h.inv_sl Tryz.underlying45
  obtain ⟨ys, rfl, hy⟩ := list_of2 (f := fun y : SPair => (SPair.e y).cells) (S := Ok60 N) (fun _ hc => tyof60 hc) hx
  refine ⟨ys, ?_, by simpa using hl, hy⟩
  rw [List.map_map, row60]
  rfl
end Go.Proofs.YtgcmhhcopeiomaaGreat.Ab
