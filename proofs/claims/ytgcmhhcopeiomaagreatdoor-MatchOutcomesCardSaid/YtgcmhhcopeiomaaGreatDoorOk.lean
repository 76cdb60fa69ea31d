/- What comes in, as plain data. Conditions: none. -/
import Derived.Test.YtgcmhhcopeiomaaGreatDoorAb11
import Derived.Test.YtgcmhhcopeiomaaGreatDoorTy
import Derived.Test.YtgcmhhcopeiomaaGreatDoorMi
import Derived.Test.YtgcmhhcopeiomaaGreatDoorRows
import Derived.ProofKit
set_option maxRecDepth 100000
namespace Go.Proofs.YtgcmhhcopeiomaaGreatDoor.Ab
open Go Go.ChangeShapes Go.WideShapes Go.ChangeAt Go.RowKit

theorem small {n : Nat} (h : n ≤ maxLen) : n ≤ 9223372036854775807 := by unfold maxLen at h; omega
theorem row26 : isRow Tryz.prog 26 = true := by simp [isRow, Tryz.underlying26]
theorem row24 : isRow Tryz.prog 24 = true := by simp [isRow, Tryz.underlying24]
theorem row23 : isRow Tryz.prog 23 = true := by simp [isRow, Tryz.underlying23]
def Ok3 (_ : Nat) (x : Int) : Prop := (Lit.int .i64 x).wf = true
theorem tyof3 {N : Nat} {c : List D} (h : Ty Tryz.prog N 3 c) : ∃ x : Int, c = D.cells (.int .i64 x) ∧ Ok3 N x := by
  obtain ⟨x, rfl, hw⟩ := h.inv_int Tryz.underlying3
  exact ⟨x, rfl, hw⟩
def Ok23 (N : Nat) (x : SRatio) : Prop := Ok3 N x.fNum ∧ Ok3 N x.fDen
theorem parts23 : partsOf Tryz.prog 23 = [(0, 3), (1, 3)] := by simp [partsOf, Tryz.underlying23] <;> rfl
theorem tyof23 {N : Nat} {c : List D} (h : Ty Tryz.prog N 23 c) : ∃ x : SRatio, c = D.cells (SRatio.e x) ∧ Ok23 N x := by
  obtain ⟨a0, _, h0, ⟨a1, _, h1, rfl, rfl⟩, rfl⟩ := h.inv_row row23 parts23
  obtain ⟨x0, rfl, o0⟩ := tyof3 h0
  obtain ⟨x1, rfl, o1⟩ := tyof3 h1
  exact ⟨⟨x0, x1⟩, rfl, ⟨o0, o1⟩⟩
def Ok24 (N : Nat) (x : A3) : Prop := Ok23 N x.e0 ∧ Ok23 N x.e1 ∧ Ok23 N x.e2
theorem parts24 : partsOf Tryz.prog 24 = [(0, 23), (2, 23), (4, 23)] := by simp [partsOf, Tryz.underlying24] <;> rfl
theorem tyof24 {N : Nat} {c : List D} (h : Ty Tryz.prog N 24 c) : ∃ x : A3, c = D.cells (A3.e x) ∧ Ok24 N x := by
  obtain ⟨a0, _, h0, ⟨a1, _, h1, ⟨a2, _, h2, rfl, rfl⟩, rfl⟩, rfl⟩ := h.inv_row row24 parts24
  obtain ⟨x0, rfl, o0⟩ := tyof23 h0
  obtain ⟨x1, rfl, o1⟩ := tyof23 h1
  obtain ⟨x2, rfl, o2⟩ := tyof23 h2
  exact ⟨⟨x0, x1, x2⟩, rfl, ⟨o0, o1, o2⟩⟩
def Ok26 (N : Nat) (x : A72) : Prop := Ok24 N x.e0 ∧ Ok24 N x.e1 ∧ Ok24 N x.e2 ∧ Ok24 N x.e3 ∧ Ok24 N x.e4 ∧ Ok24 N x.e5 ∧ Ok24 N x.e6
theorem parts26 : partsOf Tryz.prog 26 = [(0, 24), (6, 24), (12, 24), (18, 24), (24, 24), (30, 24), (36, 24)] := by simp [partsOf, Tryz.underlying26] <;> rfl
theorem tyof26 {N : Nat} {c : List D} (h : Ty Tryz.prog N 26 c) : ∃ x : A72, c = D.cells (A72.e x) ∧ Ok26 N x := by
  obtain ⟨a0, _, h0, ⟨a1, _, h1, ⟨a2, _, h2, ⟨a3, _, h3, ⟨a4, _, h4, ⟨a5, _, h5, ⟨a6, _, h6, rfl, rfl⟩, rfl⟩, rfl⟩, rfl⟩, rfl⟩, rfl⟩, rfl⟩ := h.inv_row row26 parts26
  obtain ⟨x0, rfl, o0⟩ := tyof24 h0
  obtain ⟨x1, rfl, o1⟩ := tyof24 h1
  obtain ⟨x2, rfl, o2⟩ := tyof24 h2
  obtain ⟨x3, rfl, o3⟩ := tyof24 h3
  obtain ⟨x4, rfl, o4⟩ := tyof24 h4
  obtain ⟨x5, rfl, o5⟩ := tyof24 h5
  obtain ⟨x6, rfl, o6⟩ := tyof24 h6
  exact ⟨⟨x0, x1, x2, x3, x4, x5, x6⟩, rfl, ⟨o0, o1, o2, o3, o4, o5, o6⟩⟩
theorem row28 : isRow Tryz.prog 28 = true := by simp [isRow, Tryz.underlying28]
def Ok28 (N : Nat) (x : A7) : Prop := Ok3 N x.e0 ∧ Ok3 N x.e1 ∧ Ok3 N x.e2 ∧ Ok3 N x.e3 ∧ Ok3 N x.e4 ∧ Ok3 N x.e5 ∧ Ok3 N x.e6
theorem parts28 : partsOf Tryz.prog 28 = [(0, 3), (1, 3), (2, 3), (3, 3), (4, 3), (5, 3), (6, 3)] := by simp [partsOf, Tryz.underlying28] <;> rfl
theorem tyof28 {N : Nat} {c : List D} (h : Ty Tryz.prog N 28 c) : ∃ x : A7, c = D.cells (A7.e x) ∧ Ok28 N x := by
  obtain ⟨a0, _, h0, ⟨a1, _, h1, ⟨a2, _, h2, ⟨a3, _, h3, ⟨a4, _, h4, ⟨a5, _, h5, ⟨a6, _, h6, rfl, rfl⟩, rfl⟩, rfl⟩, rfl⟩, rfl⟩, rfl⟩, rfl⟩ := h.inv_row row28 parts28
  obtain ⟨x0, rfl, o0⟩ := tyof3 h0
  obtain ⟨x1, rfl, o1⟩ := tyof3 h1
  obtain ⟨x2, rfl, o2⟩ := tyof3 h2
  obtain ⟨x3, rfl, o3⟩ := tyof3 h3
  obtain ⟨x4, rfl, o4⟩ := tyof3 h4
  obtain ⟨x5, rfl, o5⟩ := tyof3 h5
  obtain ⟨x6, rfl, o6⟩ := tyof3 h6
  exact ⟨⟨x0, x1, x2, x3, x4, x5, x6⟩, rfl, ⟨o0, o1, o2, o3, o4, o5, o6⟩⟩
end Go.Proofs.YtgcmhhcopeiomaaGreatDoor.Ab
