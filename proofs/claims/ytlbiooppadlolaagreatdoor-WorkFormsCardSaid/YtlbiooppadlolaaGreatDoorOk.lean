/- Facts on the types of this program. What comes in, as plain data. Conditions: none. -/
import Derived.Test.YtlbiooppadlolaaGreatDoorAb34
import Derived.Test.YtlbiooppadlolaaGreatDoorProg
import Derived.Test.YtlbiooppadlolaaGreatDoorAb11
import Derived.Test.YtlbiooppadlolaaGreatDoorMi
import Derived.Test.YtlbiooppadlolaaGreatDoorRows
import Derived.ProofKit
section
set_option maxRecDepth 100000
namespace Go.Proofs.YtlbiooppadlolaaGreatDoor.Ab
open Go
theorem mo : Tryz.prog.follows .mixedOrders = true := rfl
theorem ag28 : Ag Tryz.prog 28 3 := ⟨⟨_, Tryz.underlying28, rfl⟩, ⟨_, rfl, rfl⟩⟩
theorem ag33 : Ag Tryz.prog 33 3 := ⟨⟨_, Tryz.underlying33, rfl⟩, ⟨_, rfl, rfl⟩⟩
theorem fd28_0 : Fd Tryz.prog 28 0 0 := ⟨⟨_, _, Tryz.underlying28, rfl, rfl, _, rfl, by decide⟩⟩
theorem fd28_1 : Fd Tryz.prog 28 1 1 := ⟨⟨_, _, Tryz.underlying28, rfl, rfl, _, rfl, by decide⟩⟩
theorem fd28_2 : Fd Tryz.prog 28 2 2 := ⟨⟨_, _, Tryz.underlying28, rfl, rfl, _, rfl, by decide⟩⟩
theorem fd33_0 : Fd Tryz.prog 33 0 0 := ⟨⟨_, _, Tryz.underlying33, rfl, rfl, _, rfl, by decide⟩⟩
theorem fd33_1 : Fd Tryz.prog 33 1 1 := ⟨⟨_, _, Tryz.underlying33, rfl, rfl, _, rfl, by decide⟩⟩
theorem fd33_2 : Fd Tryz.prog 33 2 2 := ⟨⟨_, _, Tryz.underlying33, rfl, rfl, _, rfl, by decide⟩⟩
theorem sc25 : Sc Tryz.prog 25 := ⟨⟨_, Tryz.underlying25, rfl⟩, ⟨_, rfl, rfl⟩⟩
theorem sc26 : Sc Tryz.prog 26 := ⟨⟨_, Tryz.underlying26, rfl⟩, ⟨_, rfl, rfl⟩⟩
theorem sc3 : Sc Tryz.prog 3 := ⟨⟨_, Tryz.underlying3, rfl⟩, ⟨_, rfl, rfl⟩⟩
theorem sl22 : SlT Tryz.prog 22 33 3 56 := ⟨Tryz.underlying22, ⟨_, _, rfl, rfl, rfl, rfl, rfl⟩⟩
theorem sl25 : SlT Tryz.prog 25 3 1 8 := ⟨Tryz.underlying25, ⟨_, _, rfl, rfl, rfl, rfl, rfl⟩⟩
theorem sl26 : SlT Tryz.prog 26 25 1 24 := ⟨Tryz.underlying26, ⟨_, _, rfl, rfl, rfl, rfl, rfl⟩⟩
theorem sl31 : SlT Tryz.prog 31 28 3 56 := ⟨Tryz.underlying31, ⟨_, _, rfl, rfl, rfl, rfl, rfl⟩⟩
theorem zr28 : Zr Tryz.prog 28 [.int .i64 0, .slice none 0 0, .slice none 0 0] := ⟨⟨_, _, rfl, rfl, rfl, rfl⟩⟩
theorem zr3 : Zr Tryz.prog 3 [.int .i64 0] := ⟨⟨_, _, rfl, rfl, rfl, rfl⟩⟩
theorem zr33 : Zr Tryz.prog 33 [.int .i64 0, .slice none 0 0, .slice none 0 0] := ⟨⟨_, _, rfl, rfl, rfl, rfl⟩⟩
theorem bd28 : Bd Tryz.prog 28 [.int .i64 0, .slice none 0 0, .slice none 0 0] [(0, 1), (1, 1), (2, 1)] := ⟨zr28, ⟨_, Tryz.underlying28, rfl⟩⟩
theorem bd33 : Bd Tryz.prog 33 [.int .i64 0, .slice none 0 0, .slice none 0 0] [(0, 1), (1, 1), (2, 1)] := ⟨zr33, ⟨_, Tryz.underlying33, rfl⟩⟩
end Go.Proofs.YtlbiooppadlolaaGreatDoor.Ab
end
section
set_option maxRecDepth 100000
namespace Go.Proofs.YtlbiooppadlolaaGreatDoor.Ab
open Go Go.ChangeShapes Go.WideShapes Go.ChangeAt Go.RowKit

theorem small {n : Nat} (h : n ≤ maxLen) : n ≤ 9223372036854775807 := by unfold maxLen at h; omega
theorem row22 : isRow Tryz.prog 22 = false := by simp [isRow, Tryz.underlying22]
theorem row33 : isRow Tryz.prog 33 = true := by simp [isRow, Tryz.underlying33]
theorem row3 : isRow Tryz.prog 3 = false := by simp [isRow, Tryz.underlying3]
def Ok3 (_ : Nat) (x : Int) : Prop := (Lit.int .i64 x).wf = true
theorem tyof3 {N : Nat} {c : List D} (h : Ty Tryz.prog N 3 c) : ∃ x : Int, c = D.cells (.int .i64 x) ∧ Ok3 N x := by
  obtain ⟨x, rfl, hw⟩ := h.inv_int Tryz.underlying3
  exact ⟨x, rfl, hw⟩
theorem row25 : isRow Tryz.prog 25 = false := by simp [isRow, Tryz.underlying25]
def Ok25 (N : Nat) (x : (List Int)) : Prop := x.length ≤ N ∧ ∀ y ∈ x, Ok3 N y
theorem tyof25 {N : Nat} {c : List D} (h : Ty Tryz.prog N 25 c) : ∃ x : (List Int), c = D.cells (.sl (x.map D.i)) ∧ Ok25 N x := by
  obtain ⟨l, rfl, hl, hx⟩ := h.inv_sl Tryz.underlying25
  obtain ⟨ys, rfl, hy⟩ := list_of2 (f := fun y : Int => (D.i y).cells) (S := Ok3 N) (fun _ hc => tyof3 hc) hx
  refine ⟨ys, ?_, by simpa using hl, hy⟩
  rw [List.map_map, row3]
  rfl
def Ok26 (N : Nat) (x : (List (List Int))) : Prop := x.length ≤ N ∧ ∀ y ∈ x, Ok25 N y
theorem tyof26 {N : Nat} {c : List D} (h : Ty Tryz.prog N 26 c) : ∃ x : (List (List Int)), c = D.cells (.sl (x.map (esl D.i))) ∧ Ok26 N x := by
  obtain ⟨l, rfl, hl, hx⟩ := h.inv_sl Tryz.underlying26
  obtain ⟨ys, rfl, hy⟩ := list_of2 (f := fun y : (List Int) => ((esl D.i) y).cells) (S := Ok25 N) (fun _ hc => tyof25 hc) hx
  refine ⟨ys, ?_, by simpa using hl, hy⟩
  rw [List.map_map, row25]
  rfl
def Ok33 (N : Nat) (x : SWork) : Prop := Ok3 N x.fID ∧ Ok25 N x.fRecords ∧ Ok26 N x.fEditions
theorem parts33 : partsOf Tryz.prog 33 = [(0, 3), (1, 25), (2, 26)] := by simp [partsOf, Tryz.underlying33] <;> rfl
theorem tyof33 {N : Nat} {c : List D} (h : Ty Tryz.prog N 33 c) : ∃ x : SWork, c = D.cells (SWork.e x) ∧ Ok33 N x := by
  obtain ⟨a0, _, h0, ⟨a1, _, h1, ⟨a2, _, h2, rfl, rfl⟩, rfl⟩, rfl⟩ := h.inv_row row33 parts33
  obtain ⟨x0, rfl, o0⟩ := tyof3 h0
  obtain ⟨x1, rfl, o1⟩ := tyof25 h1
  obtain ⟨x2, rfl, o2⟩ := tyof26 h2
  exact ⟨⟨x0, x1, x2⟩, rfl, ⟨o0, o1, o2⟩⟩
def Ok22 (N : Nat) (x : (List SWork)) : Prop := x.length ≤ N ∧ ∀ y ∈ x, Ok33 N y
theorem tyof22 {N : Nat} {c : List D} (h : Ty Tryz.prog N 22 c) : ∃ x : (List SWork), c = D.cells (.sl (x.map SWork.e)) ∧ Ok22 N x := by
  obtain ⟨l, rfl, hl, hx⟩ := h.inv_sl Tryz.underlying22
  obtain ⟨ys, rfl, hy⟩ := list_of2 (f := fun y : SWork => (SWork.e y).cells) (S := Ok33 N) (fun _ hc => tyof33 hc) hx
  refine ⟨ys, ?_, by simpa using hl, hy⟩
  rw [List.map_map, row33]
  rfl
end Go.Proofs.YtlbiooppadlolaaGreatDoor.Ab
end
