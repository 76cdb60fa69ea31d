/- Facts on the types of this program. What comes in, as plain data. Conditions: none. -/
import Derived.Test.YtindppnanjcoaaaGreatDoorIj
import Derived.Test.YtindppnanjcoaaaGreatDoorProg
import Derived.Test.YtindppnanjcoaaaGreatDoorAb11
import Derived.Test.YtindppnanjcoaaaGreatDoorMi
import Derived.Test.YtindppnanjcoaaaGreatDoorRows
import Derived.ProofKit
section
set_option maxRecDepth 100000
namespace Go.Proofs.YtindppnanjcoaaaGreatDoor.Ab
open Go
theorem mo : Tryz.prog.follows .mixedOrders = true := rfl
theorem cd {S : List Nat} : ∀ l : List D, LeRC S (l.map V.d) (l.map V.d)
  | [] => .nil
  | _ :: l => .cons (.d rfl) (cd l)
theorem ag41 : Ag Tryz.prog 41 7 := ⟨⟨_, Tryz.underlying41, rfl⟩, ⟨_, rfl, rfl⟩⟩
theorem ag43 : Ag Tryz.prog 43 11 := ⟨⟨_, Tryz.underlying43, rfl⟩, ⟨_, rfl, rfl⟩⟩
theorem ag46 : Ag Tryz.prog 46 2 := ⟨⟨_, Tryz.underlying46, rfl⟩, ⟨_, rfl, rfl⟩⟩
theorem ag47 : Ag Tryz.prog 47 6 := ⟨⟨_, Tryz.underlying47, rfl⟩, ⟨_, rfl, rfl⟩⟩
theorem ag49 : Ag Tryz.prog 49 42 := ⟨⟨_, Tryz.underlying49, rfl⟩, ⟨_, rfl, rfl⟩⟩
theorem ag53 : Ag Tryz.prog 53 7 := ⟨⟨_, Tryz.underlying53, rfl⟩, ⟨_, rfl, rfl⟩⟩
theorem ag55 : Ag Tryz.prog 55 11 := ⟨⟨_, Tryz.underlying55, rfl⟩, ⟨_, rfl, rfl⟩⟩
theorem ag57 : Ag Tryz.prog 57 2 := ⟨⟨_, Tryz.underlying57, rfl⟩, ⟨_, rfl, rfl⟩⟩
theorem ag60 : Ag Tryz.prog 60 42 := ⟨⟨_, Tryz.underlying60, rfl⟩, ⟨_, rfl, rfl⟩⟩
theorem ag94 : Ag Tryz.prog 94 6 := ⟨⟨_, Tryz.underlying94, rfl⟩, ⟨_, rfl, rfl⟩⟩
theorem ag95 : Ag Tryz.prog 95 42 := ⟨⟨_, Tryz.underlying95, rfl⟩, ⟨_, rfl, rfl⟩⟩
theorem fd43_0 : Fd Tryz.prog 43 0 0 := ⟨⟨_, _, Tryz.underlying43, rfl, rfl, _, rfl, by decide⟩⟩
theorem fd43_1 : Fd Tryz.prog 43 1 1 := ⟨⟨_, _, Tryz.underlying43, rfl, rfl, _, rfl, by decide⟩⟩
theorem fd43_2 : Fd Tryz.prog 43 2 2 := ⟨⟨_, _, Tryz.underlying43, rfl, rfl, _, rfl, by decide⟩⟩
theorem fd43_3 : Fd Tryz.prog 43 3 3 := ⟨⟨_, _, Tryz.underlying43, rfl, rfl, _, rfl, by decide⟩⟩
theorem fd43_4 : Fd Tryz.prog 43 4 10 := ⟨⟨_, _, Tryz.underlying43, rfl, rfl, _, rfl, by decide⟩⟩
theorem fd46_0 : Fd Tryz.prog 46 0 0 := ⟨⟨_, _, Tryz.underlying46, rfl, rfl, _, rfl, by decide⟩⟩
theorem fd46_1 : Fd Tryz.prog 46 1 1 := ⟨⟨_, _, Tryz.underlying46, rfl, rfl, _, rfl, by decide⟩⟩
theorem fd55_0 : Fd Tryz.prog 55 0 0 := ⟨⟨_, _, Tryz.underlying55, rfl, rfl, _, rfl, by decide⟩⟩
theorem fd55_1 : Fd Tryz.prog 55 1 1 := ⟨⟨_, _, Tryz.underlying55, rfl, rfl, _, rfl, by decide⟩⟩
theorem fd55_2 : Fd Tryz.prog 55 2 2 := ⟨⟨_, _, Tryz.underlying55, rfl, rfl, _, rfl, by decide⟩⟩
theorem fd55_3 : Fd Tryz.prog 55 3 3 := ⟨⟨_, _, Tryz.underlying55, rfl, rfl, _, rfl, by decide⟩⟩
theorem fd55_4 : Fd Tryz.prog 55 4 10 := ⟨⟨_, _, Tryz.underlying55, rfl, rfl, _, rfl, by decide⟩⟩
theorem fd57_0 : Fd Tryz.prog 57 0 0 := ⟨⟨_, _, Tryz.underlying57, rfl, rfl, _, rfl, by decide⟩⟩
theorem fd57_1 : Fd Tryz.prog 57 1 1 := ⟨⟨_, _, Tryz.underlying57, rfl, rfl, _, rfl, by decide⟩⟩
theorem sc3 : Sc Tryz.prog 3 := ⟨⟨_, Tryz.underlying3, rfl⟩, ⟨_, rfl, rfl⟩⟩
theorem sc4 : Sc Tryz.prog 4 := ⟨⟨_, Tryz.underlying4, rfl⟩, ⟨_, rfl, rfl⟩⟩
theorem sc9 : Sc Tryz.prog 9 := ⟨⟨_, Tryz.underlying9, rfl⟩, ⟨_, rfl, rfl⟩⟩
theorem sl106 : SlT Tryz.prog 106 57 2 16 := ⟨Tryz.underlying106, ⟨_, _, rfl, rfl, rfl, rfl, rfl⟩⟩
theorem sl185 : SlT Tryz.prog 185 47 6 48 := ⟨Tryz.underlying185, ⟨_, _, rfl, rfl, rfl, rfl, rfl⟩⟩
theorem sl22 : SlT Tryz.prog 22 55 11 88 := ⟨Tryz.underlying22, ⟨_, _, rfl, rfl, rfl, rfl, rfl⟩⟩
theorem sl24 : SlT Tryz.prog 24 9 1 16 := ⟨Tryz.underlying24, ⟨_, _, rfl, rfl, rfl, rfl, rfl⟩⟩
theorem sl28 : SlT Tryz.prog 28 43 11 88 := ⟨Tryz.underlying28, ⟨_, _, rfl, rfl, rfl, rfl, rfl⟩⟩
theorem sl33 : SlT Tryz.prog 33 3 1 8 := ⟨Tryz.underlying33, ⟨_, _, rfl, rfl, rfl, rfl, rfl⟩⟩
theorem sl88 : SlT Tryz.prog 88 46 2 16 := ⟨Tryz.underlying88, ⟨_, _, rfl, rfl, rfl, rfl, rfl⟩⟩
theorem sl97 : SlT Tryz.prog 97 5 1 1 := ⟨Tryz.underlying97, ⟨_, _, rfl, rfl, rfl, rfl, rfl⟩⟩
theorem zr43 : Zr Tryz.prog 43 [.int .i64 0, .int .i64 0, .bool false, .int .i64 0, .int .i64 0, .int .i64 0, .int .i64 0, .int .i64 0, .int .i64 0, .int .i64 0, .int .i64 0] := ⟨⟨_, _, rfl, rfl, rfl, rfl⟩⟩
theorem zr46 : Zr Tryz.prog 46 [.int .i64 0, .int .i64 0] := ⟨⟨_, _, rfl, rfl, rfl, rfl⟩⟩
theorem zr49 : Zr Tryz.prog 49 [.int .i64 0, .int .i64 0, .int .i64 0, .int .i64 0, .int .i64 0, .int .i64 0, .int .i64 0, .int .i64 0, .int .i64 0, .int .i64 0, .int .i64 0, .int .i64 0, .int .i64 0, .int .i64 0, .int .i64 0, .int .i64 0, .int .i64 0, .int .i64 0, .int .i64 0, .int .i64 0, .int .i64 0, .int .i64 0, .int .i64 0, .int .i64 0, .int .i64 0, .int .i64 0, .int .i64 0, .int .i64 0, .int .i64 0, .int .i64 0, .int .i64 0, .int .i64 0, .int .i64 0, .int .i64 0, .int .i64 0, .int .i64 0, .int .i64 0, .int .i64 0, .int .i64 0, .int .i64 0, .int .i64 0, .int .i64 0] := ⟨⟨_, _, rfl, rfl, rfl, rfl⟩⟩
theorem zr55 : Zr Tryz.prog 55 [.int .i64 0, .int .i64 0, .bool false, .int .i64 0, .int .i64 0, .int .i64 0, .int .i64 0, .int .i64 0, .int .i64 0, .int .i64 0, .int .i64 0] := ⟨⟨_, _, rfl, rfl, rfl, rfl⟩⟩
theorem zr57 : Zr Tryz.prog 57 [.int .i64 0, .int .i64 0] := ⟨⟨_, _, rfl, rfl, rfl, rfl⟩⟩
theorem zr60 : Zr Tryz.prog 60 [.int .i64 0, .int .i64 0, .int .i64 0, .int .i64 0, .int .i64 0, .int .i64 0, .int .i64 0, .int .i64 0, .int .i64 0, .int .i64 0, .int .i64 0, .int .i64 0, .int .i64 0, .int .i64 0, .int .i64 0, .int .i64 0, .int .i64 0, .int .i64 0, .int .i64 0, .int .i64 0, .int .i64 0, .int .i64 0, .int .i64 0, .int .i64 0, .int .i64 0, .int .i64 0, .int .i64 0, .int .i64 0, .int .i64 0, .int .i64 0, .int .i64 0, .int .i64 0, .int .i64 0, .int .i64 0, .int .i64 0, .int .i64 0, .int .i64 0, .int .i64 0, .int .i64 0, .int .i64 0, .int .i64 0, .int .i64 0] := ⟨⟨_, _, rfl, rfl, rfl, rfl⟩⟩
theorem zr91 : Zr Tryz.prog 91 [.string ⟨#[]⟩, .string ⟨#[]⟩, .string ⟨#[]⟩, .string ⟨#[]⟩, .string ⟨#[]⟩, .string ⟨#[]⟩, .string ⟨#[]⟩] := ⟨⟨_, _, rfl, rfl, rfl, rfl⟩⟩
theorem zr92 : Zr Tryz.prog 92 [.string ⟨#[]⟩, .string ⟨#[]⟩, .string ⟨#[]⟩, .string ⟨#[]⟩] := ⟨⟨_, _, rfl, rfl, rfl, rfl⟩⟩
theorem zr94 : Zr Tryz.prog 94 [.int .i64 0, .int .i64 0, .int .i64 0, .int .i64 0, .int .i64 0, .int .i64 0] := ⟨⟨_, _, rfl, rfl, rfl, rfl⟩⟩
theorem zr95 : Zr Tryz.prog 95 [.int .i64 0, .int .i64 0, .int .i64 0, .int .i64 0, .int .i64 0, .int .i64 0, .int .i64 0, .int .i64 0, .int .i64 0, .int .i64 0, .int .i64 0, .int .i64 0, .int .i64 0, .int .i64 0, .int .i64 0, .int .i64 0, .int .i64 0, .int .i64 0, .int .i64 0, .int .i64 0, .int .i64 0, .int .i64 0, .int .i64 0, .int .i64 0, .int .i64 0, .int .i64 0, .int .i64 0, .int .i64 0, .int .i64 0, .int .i64 0, .int .i64 0, .int .i64 0, .int .i64 0, .int .i64 0, .int .i64 0, .int .i64 0, .int .i64 0, .int .i64 0, .int .i64 0, .int .i64 0, .int .i64 0, .int .i64 0] := ⟨⟨_, _, rfl, rfl, rfl, rfl⟩⟩
theorem ba91 : Ba Tryz.prog 91 [.string ⟨#[]⟩, .string ⟨#[]⟩, .string ⟨#[]⟩, .string ⟨#[]⟩, .string ⟨#[]⟩, .string ⟨#[]⟩, .string ⟨#[]⟩] 7 9 1 := ⟨zr91, Tryz.underlying91, ⟨_, rfl, rfl⟩⟩
theorem ba92 : Ba Tryz.prog 92 [.string ⟨#[]⟩, .string ⟨#[]⟩, .string ⟨#[]⟩, .string ⟨#[]⟩] 4 9 1 := ⟨zr92, Tryz.underlying92, ⟨_, rfl, rfl⟩⟩
theorem ba94 : Ba Tryz.prog 94 [.int .i64 0, .int .i64 0, .int .i64 0, .int .i64 0, .int .i64 0, .int .i64 0] 6 3 1 := ⟨zr94, Tryz.underlying94, ⟨_, rfl, rfl⟩⟩
theorem ba95 : Ba Tryz.prog 95 [.int .i64 0, .int .i64 0, .int .i64 0, .int .i64 0, .int .i64 0, .int .i64 0, .int .i64 0, .int .i64 0, .int .i64 0, .int .i64 0, .int .i64 0, .int .i64 0, .int .i64 0, .int .i64 0, .int .i64 0, .int .i64 0, .int .i64 0, .int .i64 0, .int .i64 0, .int .i64 0, .int .i64 0, .int .i64 0, .int .i64 0, .int .i64 0, .int .i64 0, .int .i64 0, .int .i64 0, .int .i64 0, .int .i64 0, .int .i64 0, .int .i64 0, .int .i64 0, .int .i64 0, .int .i64 0, .int .i64 0, .int .i64 0, .int .i64 0, .int .i64 0, .int .i64 0, .int .i64 0, .int .i64 0, .int .i64 0] 7 94 6 := ⟨zr95, Tryz.underlying95, ⟨_, rfl, rfl⟩⟩
theorem bd43 : Bd Tryz.prog 43 [.int .i64 0, .int .i64 0, .bool false, .int .i64 0, .int .i64 0, .int .i64 0, .int .i64 0, .int .i64 0, .int .i64 0, .int .i64 0, .int .i64 0] [(0, 1), (1, 1), (2, 1), (3, 7), (10, 1)] := ⟨zr43, ⟨_, Tryz.underlying43, rfl⟩⟩
theorem bd46 : Bd Tryz.prog 46 [.int .i64 0, .int .i64 0] [(0, 1), (1, 1)] := ⟨zr46, ⟨_, Tryz.underlying46, rfl⟩⟩
theorem bd57 : Bd Tryz.prog 57 [.int .i64 0, .int .i64 0] [(0, 1), (1, 1)] := ⟨zr57, ⟨_, Tryz.underlying57, rfl⟩⟩
end Go.Proofs.YtindppnanjcoaaaGreatDoor.Ab
end
section
set_option maxRecDepth 100000
namespace Go.Proofs.YtindppnanjcoaaaGreatDoor.Ab
open Go Go.ChangeShapes Go.WideShapes Go.ChangeAt Go.RowKit

theorem small {n : Nat} (h : n ≤ maxLen) : n ≤ 9223372036854775807 := by unfold maxLen at h; omega
theorem row22 : isRow Tryz.prog 22 = false := by simp [isRow, Tryz.underlying22]
theorem row55 : isRow Tryz.prog 55 = true := by simp [isRow, Tryz.underlying55]
def Ok3 (_ : Nat) (x : Int) : Prop := (Lit.int .i64 x).wf = true
theorem tyof3 {N : Nat} {c : List D} (h : Ty Tryz.prog N 3 c) : ∃ x : Int, c = D.cells (.int .i64 x) ∧ Ok3 N x := by
  obtain ⟨x, rfl, hw⟩ := h.inv_int Tryz.underlying3
  exact ⟨x, rfl, hw⟩
def Ok4 (_ : Nat) (_ : Bool) : Prop := True
theorem tyof4 {N : Nat} {c : List D} (h : Ty Tryz.prog N 4 c) : ∃ x : Bool, c = D.cells (.bool x) ∧ Ok4 N x := by
  obtain ⟨x, rfl⟩ := h.inv_bool Tryz.underlying4
  exact ⟨x, rfl, trivial⟩
theorem row53 : isRow Tryz.prog 53 = true := by simp [isRow, Tryz.underlying53]
def Ok53 (N : Nat) (x : A73) : Prop := Ok3 N x.e0 ∧ Ok3 N x.e1 ∧ Ok3 N x.e2 ∧ Ok3 N x.e3 ∧ Ok3 N x.e4 ∧ Ok3 N x.e5 ∧ Ok3 N x.e6
theorem parts53 : partsOf Tryz.prog 53 = [(0, 3), (1, 3), (2, 3), (3, 3), (4, 3), (5, 3), (6, 3)] := by simp [partsOf, Tryz.underlying53] <;> rfl
theorem tyof53 {N : Nat} {c : List D} (h : Ty Tryz.prog N 53 c) : ∃ x : A73, c = D.cells (A73.e x) ∧ Ok53 N x := by
  obtain ⟨a0, _, h0, ⟨a1, _, h1, ⟨a2, _, h2, ⟨a3, _, h3, ⟨a4, _, h4, ⟨a5, _, h5, ⟨a6, _, h6, rfl, rfl⟩, rfl⟩, rfl⟩, rfl⟩, rfl⟩, rfl⟩, rfl⟩ := h.inv_row row53 parts53
  obtain ⟨x0, rfl, o0⟩ := tyof3 h0
  obtain ⟨x1, rfl, o1⟩ := tyof3 h1
  obtain ⟨x2, rfl, o2⟩ := tyof3 h2
  obtain ⟨x3, rfl, o3⟩ := tyof3 h3
  obtain ⟨x4, rfl, o4⟩ := tyof3 h4
  obtain ⟨x5, rfl, o5⟩ := tyof3 h5
  obtain ⟨x6, rfl, o6⟩ := tyof3 h6
  exact ⟨⟨x0, x1, x2, x3, x4, x5, x6⟩, rfl, ⟨o0, o1, o2, o3, o4, o5, o6⟩⟩
def Ok55 (N : Nat) (x : SLink) : Prop := Ok3 N x.fA ∧ Ok3 N x.fB ∧ Ok4 N x.fMust ∧ Ok53 N x.fOutcome ∧ Ok3 N x.fWeight
theorem parts55 : partsOf Tryz.prog 55 = [(0, 3), (1, 3), (2, 4), (3, 53), (10, 3)] := by simp [partsOf, Tryz.underlying55] <;> rfl
theorem tyof55 {N : Nat} {c : List D} (h : Ty Tryz.prog N 55 c) : ∃ x : SLink, c = D.cells (SLink.e x) ∧ Ok55 N x := by
  obtain ⟨a0, _, h0, ⟨a1, _, h1, ⟨a2, _, h2, ⟨a3, _, h3, ⟨a4, _, h4, rfl, rfl⟩, rfl⟩, rfl⟩, rfl⟩, rfl⟩ := h.inv_row row55 parts55
  obtain ⟨x0, rfl, o0⟩ := tyof3 h0
  obtain ⟨x1, rfl, o1⟩ := tyof3 h1
  obtain ⟨x2, rfl, o2⟩ := tyof4 h2
  obtain ⟨x3, rfl, o3⟩ := tyof53 h3
  obtain ⟨x4, rfl, o4⟩ := tyof3 h4
  exact ⟨⟨x0, x1, x2, x3, x4⟩, rfl, ⟨o0, o1, o2, o3, o4⟩⟩
def Ok22 (N : Nat) (x : (List SLink)) : Prop := x.length ≤ N ∧ ∀ y ∈ x, Ok55 N y
theorem tyof22 {N : Nat} {c : List D} (h : Ty Tryz.prog N 22 c) : ∃ x : (List SLink), c = D.cells (.sl (x.map SLink.e)) ∧ Ok22 N x := by
  obtain ⟨l, rfl, hl, hx⟩ := h.inv_sl Tryz.underlying22
  obtain ⟨ys, rfl, hy⟩ := list_of2 (f := fun y : SLink => (SLink.e y).cells) (S := Ok55 N) (fun _ hc => tyof55 hc) hx
  refine ⟨ys, ?_, by simpa using hl, hy⟩
  rw [List.map_map, row55]
  rfl
end Go.Proofs.YtindppnanjcoaaaGreatDoor.Ab
end
