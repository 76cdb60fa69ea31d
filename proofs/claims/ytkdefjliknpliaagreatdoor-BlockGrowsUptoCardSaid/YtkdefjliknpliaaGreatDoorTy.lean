/- Facts on the types of this program. Conditions: none. -/
import Derived.Test.YtkdefjliknpliaaGreatDoorAb29
import Derived.Test.YtkdefjliknpliaaGreatDoorProg
set_option maxRecDepth 100000
namespace Go.Proofs.YtkdefjliknpliaaGreatDoor.Ab
open Go
theorem mo : Tryz.prog.follows .mixedOrders = true := rfl
theorem ag40 : Ag Tryz.prog 40 8 := ⟨⟨_, Tryz.underlying40, rfl⟩, ⟨_, rfl, rfl⟩⟩
theorem ag43 : Ag Tryz.prog 43 8 := ⟨⟨_, Tryz.underlying43, rfl⟩, ⟨_, rfl, rfl⟩⟩
theorem ag64 : Ag Tryz.prog 64 2 := ⟨⟨_, Tryz.underlying64, rfl⟩, ⟨_, rfl, rfl⟩⟩
theorem ag75 : Ag Tryz.prog 75 2 := ⟨⟨_, Tryz.underlying75, rfl⟩, ⟨_, rfl, rfl⟩⟩
theorem ag81 : Ag Tryz.prog 81 2 := ⟨⟨_, Tryz.underlying81, rfl⟩, ⟨_, rfl, rfl⟩⟩
theorem fd40_0 : Fd Tryz.prog 40 0 0 := ⟨⟨_, _, Tryz.underlying40, rfl, rfl, _, rfl, by decide⟩⟩
theorem fd40_1 : Fd Tryz.prog 40 1 1 := ⟨⟨_, _, Tryz.underlying40, rfl, rfl, _, rfl, by decide⟩⟩
theorem fd40_2 : Fd Tryz.prog 40 2 2 := ⟨⟨_, _, Tryz.underlying40, rfl, rfl, _, rfl, by decide⟩⟩
theorem fd40_3 : Fd Tryz.prog 40 3 3 := ⟨⟨_, _, Tryz.underlying40, rfl, rfl, _, rfl, by decide⟩⟩
theorem fd40_4 : Fd Tryz.prog 40 4 4 := ⟨⟨_, _, Tryz.underlying40, rfl, rfl, _, rfl, by decide⟩⟩
theorem fd40_5 : Fd Tryz.prog 40 5 5 := ⟨⟨_, _, Tryz.underlying40, rfl, rfl, _, rfl, by decide⟩⟩
theorem fd40_6 : Fd Tryz.prog 40 6 6 := ⟨⟨_, _, Tryz.underlying40, rfl, rfl, _, rfl, by decide⟩⟩
theorem fd40_7 : Fd Tryz.prog 40 7 7 := ⟨⟨_, _, Tryz.underlying40, rfl, rfl, _, rfl, by decide⟩⟩
theorem fd43_0 : Fd Tryz.prog 43 0 0 := ⟨⟨_, _, Tryz.underlying43, rfl, rfl, _, rfl, by decide⟩⟩
theorem fd43_1 : Fd Tryz.prog 43 1 1 := ⟨⟨_, _, Tryz.underlying43, rfl, rfl, _, rfl, by decide⟩⟩
theorem fd43_2 : Fd Tryz.prog 43 2 2 := ⟨⟨_, _, Tryz.underlying43, rfl, rfl, _, rfl, by decide⟩⟩
theorem fd43_3 : Fd Tryz.prog 43 3 3 := ⟨⟨_, _, Tryz.underlying43, rfl, rfl, _, rfl, by decide⟩⟩
theorem fd43_4 : Fd Tryz.prog 43 4 4 := ⟨⟨_, _, Tryz.underlying43, rfl, rfl, _, rfl, by decide⟩⟩
theorem fd43_5 : Fd Tryz.prog 43 5 5 := ⟨⟨_, _, Tryz.underlying43, rfl, rfl, _, rfl, by decide⟩⟩
theorem fd43_6 : Fd Tryz.prog 43 6 6 := ⟨⟨_, _, Tryz.underlying43, rfl, rfl, _, rfl, by decide⟩⟩
theorem fd43_7 : Fd Tryz.prog 43 7 7 := ⟨⟨_, _, Tryz.underlying43, rfl, rfl, _, rfl, by decide⟩⟩
theorem fd64_0 : Fd Tryz.prog 64 0 0 := ⟨⟨_, _, Tryz.underlying64, rfl, rfl, _, rfl, by decide⟩⟩
theorem fd64_1 : Fd Tryz.prog 64 1 1 := ⟨⟨_, _, Tryz.underlying64, rfl, rfl, _, rfl, by decide⟩⟩
theorem fd75_0 : Fd Tryz.prog 75 0 0 := ⟨⟨_, _, Tryz.underlying75, rfl, rfl, _, rfl, by decide⟩⟩
theorem fd75_1 : Fd Tryz.prog 75 1 1 := ⟨⟨_, _, Tryz.underlying75, rfl, rfl, _, rfl, by decide⟩⟩
theorem fd81_0 : Fd Tryz.prog 81 0 0 := ⟨⟨_, _, Tryz.underlying81, rfl, rfl, _, rfl, by decide⟩⟩
theorem fd81_1 : Fd Tryz.prog 81 1 1 := ⟨⟨_, _, Tryz.underlying81, rfl, rfl, _, rfl, by decide⟩⟩
theorem sc3 : Sc Tryz.prog 3 := ⟨⟨_, Tryz.underlying3, rfl⟩, ⟨_, rfl, rfl⟩⟩
theorem sc37 : Sc Tryz.prog 37 := ⟨⟨_, Tryz.underlying37, rfl⟩, ⟨_, rfl, rfl⟩⟩
theorem sc38 : Sc Tryz.prog 38 := ⟨⟨_, Tryz.underlying38, rfl⟩, ⟨_, rfl, rfl⟩⟩
theorem sc5 : Sc Tryz.prog 5 := ⟨⟨_, Tryz.underlying5, rfl⟩, ⟨_, rfl, rfl⟩⟩
theorem sc9 : Sc Tryz.prog 9 := ⟨⟨_, Tryz.underlying9, rfl⟩, ⟨_, rfl, rfl⟩⟩
theorem sl116 : SlT Tryz.prog 116 5 1 1 := ⟨Tryz.underlying116, ⟨_, _, rfl, rfl, rfl, rfl, rfl⟩⟩
theorem sl22 : SlT Tryz.prog 22 40 8 168 := ⟨Tryz.underlying22, ⟨_, _, rfl, rfl, rfl, rfl, rfl⟩⟩
theorem sl25 : SlT Tryz.prog 25 75 2 40 := ⟨Tryz.underlying25, ⟨_, _, rfl, rfl, rfl, rfl, rfl⟩⟩
theorem sl26 : SlT Tryz.prog 26 75 2 40 := ⟨Tryz.underlying26, ⟨_, _, rfl, rfl, rfl, rfl, rfl⟩⟩
theorem sl30 : SlT Tryz.prog 30 43 8 168 := ⟨Tryz.underlying30, ⟨_, _, rfl, rfl, rfl, rfl, rfl⟩⟩
theorem sl32 : SlT Tryz.prog 32 81 2 40 := ⟨Tryz.underlying32, ⟨_, _, rfl, rfl, rfl, rfl, rfl⟩⟩
theorem sl37 : SlT Tryz.prog 37 9 1 16 := ⟨Tryz.underlying37, ⟨_, _, rfl, rfl, rfl, rfl, rfl⟩⟩
theorem sl38 : SlT Tryz.prog 38 3 1 8 := ⟨Tryz.underlying38, ⟨_, _, rfl, rfl, rfl, rfl, rfl⟩⟩
theorem sl59 : SlT Tryz.prog 59 64 2 16 := ⟨Tryz.underlying59, ⟨_, _, rfl, rfl, rfl, rfl, rfl⟩⟩
theorem zr3 : Zr Tryz.prog 3 [.int .i64 0] := ⟨⟨_, _, rfl, rfl, rfl, rfl⟩⟩
theorem zr40 : Zr Tryz.prog 40 [.int .i64 0, .slice none 0 0, .string ⟨#[]⟩, .slice none 0 0, .slice none 0 0, .slice none 0 0, .slice none 0 0, .slice none 0 0] := ⟨⟨_, _, rfl, rfl, rfl, rfl⟩⟩
theorem zr43 : Zr Tryz.prog 43 [.int .i64 0, .slice none 0 0, .string ⟨#[]⟩, .slice none 0 0, .slice none 0 0, .slice none 0 0, .slice none 0 0, .slice none 0 0] := ⟨⟨_, _, rfl, rfl, rfl, rfl⟩⟩
theorem zr64 : Zr Tryz.prog 64 [.int .i64 0, .int .i64 0] := ⟨⟨_, _, rfl, rfl, rfl, rfl⟩⟩
theorem zr75 : Zr Tryz.prog 75 [.string ⟨#[]⟩, .slice none 0 0] := ⟨⟨_, _, rfl, rfl, rfl, rfl⟩⟩
theorem zr81 : Zr Tryz.prog 81 [.string ⟨#[]⟩, .slice none 0 0] := ⟨⟨_, _, rfl, rfl, rfl, rfl⟩⟩
theorem bd43 : Bd Tryz.prog 43 [.int .i64 0, .slice none 0 0, .string ⟨#[]⟩, .slice none 0 0, .slice none 0 0, .slice none 0 0, .slice none 0 0, .slice none 0 0] [(0, 1), (1, 1), (2, 1), (3, 1), (4, 1), (5, 1), (6, 1), (7, 1)] := ⟨zr43, ⟨_, Tryz.underlying43, rfl⟩⟩
theorem bd64 : Bd Tryz.prog 64 [.int .i64 0, .int .i64 0] [(0, 1), (1, 1)] := ⟨zr64, ⟨_, Tryz.underlying64, rfl⟩⟩
theorem bd75 : Bd Tryz.prog 75 [.string ⟨#[]⟩, .slice none 0 0] [(0, 1), (1, 1)] := ⟨zr75, ⟨_, Tryz.underlying75, rfl⟩⟩
theorem bd81 : Bd Tryz.prog 81 [.string ⟨#[]⟩, .slice none 0 0] [(0, 1), (1, 1)] := ⟨zr81, ⟨_, Tryz.underlying81, rfl⟩⟩
section
variable {F : FC} {Q : Exit → St → Prop} {K : St → Prop} {ops : Array Oper} {dst : Option Nat} {o : Op} {ty : TypeId} {pos : String} {after : Array Edge} {rest : List Oper} {E : Nat → V} {H H' : List HE} {v : V}
theorem zs (h : OpV F.P o ty (ρ E) H v H') (k : AL F ops K rest ⟨updO E dst v, H'⟩) (hd : dlt dst F.n = true := by exact rfl) : AL F ops K (⟨dst, o, ty, pos, after, none⟩ :: rest) ⟨E, H⟩ := AL.s hd h k
theorem zm {x : Operand} {y : D} (h : ρ E x = .d y) (k : AL F ops K rest ⟨updO E dst (.d y), H⟩) (hd : dlt dst F.n = true := by exact rfl) : AL F ops K (⟨dst, .move x, ty, pos, after, none⟩ :: rest) ⟨E, H⟩ := AL.s hd (op_moveD (.e h)) k
theorem za {x : Operand} {y : D} (h : ρ E x = .d y) (k : AL F ops K rest ⟨updO E dst (.d y), H⟩) (hd : dlt dst F.n = true := by exact rfl) : AL F ops K (⟨dst, .assign x, ty, pos, after, none⟩ :: rest) ⟨E, H⟩ := AL.s hd (op_assignD (.e h)) k
theorem zr {st : St} {id : Nat} {y : Code} (h : AL F ops (AW F y Q) ops.toList st) : AW F (.seq (.region id ops false) y) Q st := AW.seqR h
theorem zn {st : St} (h : K st) : AL F ops K [] st := AL.nil h
end
end Go.Proofs.YtkdefjliknpliaaGreatDoor.Ab
