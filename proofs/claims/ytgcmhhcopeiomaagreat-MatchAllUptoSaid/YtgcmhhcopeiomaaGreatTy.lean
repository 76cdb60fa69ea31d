/- Facts on the types of this program. Conditions: none. -/
import Derived.Test.YtgcmhhcopeiomaaGreatAb29
import Derived.Test.YtgcmhhcopeiomaaGreatProg
set_option maxRecDepth 100000
namespace Go.Proofs.YtgcmhhcopeiomaaGreat.Ab
open Go
theorem mo : Tryz.prog.follows .mixedOrders = true := rfl
theorem cd {S : List Nat} : ∀ l : List D, LeRC S (l.map V.d) (l.map V.d)
  | [] => .nil
  | _ :: l => .cons (.d rfl) (cd l)
theorem ag25 : Ag Tryz.prog 25 8 := ⟨⟨_, Tryz.underlying25, rfl⟩, ⟨_, rfl, rfl⟩⟩
theorem ag29 : Ag Tryz.prog 29 7 := ⟨⟨_, Tryz.underlying29, rfl⟩, ⟨_, rfl, rfl⟩⟩
theorem ag33 : Ag Tryz.prog 33 8 := ⟨⟨_, Tryz.underlying33, rfl⟩, ⟨_, rfl, rfl⟩⟩
theorem ag35 : Ag Tryz.prog 35 7 := ⟨⟨_, Tryz.underlying35, rfl⟩, ⟨_, rfl, rfl⟩⟩
theorem ag40 : Ag Tryz.prog 40 2 := ⟨⟨_, Tryz.underlying40, rfl⟩, ⟨_, rfl, rfl⟩⟩
theorem ag43 : Ag Tryz.prog 43 42 := ⟨⟨_, Tryz.underlying43, rfl⟩, ⟨_, rfl, rfl⟩⟩
theorem ag49 : Ag Tryz.prog 49 2 := ⟨⟨_, Tryz.underlying49, rfl⟩, ⟨_, rfl, rfl⟩⟩
theorem ag50 : Ag Tryz.prog 50 6 := ⟨⟨_, Tryz.underlying50, rfl⟩, ⟨_, rfl, rfl⟩⟩
theorem ag52 : Ag Tryz.prog 52 42 := ⟨⟨_, Tryz.underlying52, rfl⟩, ⟨_, rfl, rfl⟩⟩
theorem ag60 : Ag Tryz.prog 60 2 := ⟨⟨_, Tryz.underlying60, rfl⟩, ⟨_, rfl, rfl⟩⟩
theorem ag62 : Ag Tryz.prog 62 3 := ⟨⟨_, Tryz.underlying62, rfl⟩, ⟨_, rfl, rfl⟩⟩
theorem ag63 : Ag Tryz.prog 63 3 := ⟨⟨_, Tryz.underlying63, rfl⟩, ⟨_, rfl, rfl⟩⟩
theorem ag87 : Ag Tryz.prog 87 6 := ⟨⟨_, Tryz.underlying87, rfl⟩, ⟨_, rfl, rfl⟩⟩
theorem ag88 : Ag Tryz.prog 88 42 := ⟨⟨_, Tryz.underlying88, rfl⟩, ⟨_, rfl, rfl⟩⟩
theorem fd25_0 : Fd Tryz.prog 25 0 0 := ⟨⟨_, _, Tryz.underlying25, rfl, rfl, _, rfl, by decide⟩⟩
theorem fd25_1 : Fd Tryz.prog 25 1 1 := ⟨⟨_, _, Tryz.underlying25, rfl, rfl, _, rfl, by decide⟩⟩
theorem fd25_2 : Fd Tryz.prog 25 2 2 := ⟨⟨_, _, Tryz.underlying25, rfl, rfl, _, rfl, by decide⟩⟩
theorem fd25_3 : Fd Tryz.prog 25 3 3 := ⟨⟨_, _, Tryz.underlying25, rfl, rfl, _, rfl, by decide⟩⟩
theorem fd25_4 : Fd Tryz.prog 25 4 4 := ⟨⟨_, _, Tryz.underlying25, rfl, rfl, _, rfl, by decide⟩⟩
theorem fd25_5 : Fd Tryz.prog 25 5 5 := ⟨⟨_, _, Tryz.underlying25, rfl, rfl, _, rfl, by decide⟩⟩
theorem fd25_6 : Fd Tryz.prog 25 6 6 := ⟨⟨_, _, Tryz.underlying25, rfl, rfl, _, rfl, by decide⟩⟩
theorem fd25_7 : Fd Tryz.prog 25 7 7 := ⟨⟨_, _, Tryz.underlying25, rfl, rfl, _, rfl, by decide⟩⟩
theorem fd33_0 : Fd Tryz.prog 33 0 0 := ⟨⟨_, _, Tryz.underlying33, rfl, rfl, _, rfl, by decide⟩⟩
theorem fd33_1 : Fd Tryz.prog 33 1 1 := ⟨⟨_, _, Tryz.underlying33, rfl, rfl, _, rfl, by decide⟩⟩
theorem fd33_2 : Fd Tryz.prog 33 2 2 := ⟨⟨_, _, Tryz.underlying33, rfl, rfl, _, rfl, by decide⟩⟩
theorem fd33_3 : Fd Tryz.prog 33 3 3 := ⟨⟨_, _, Tryz.underlying33, rfl, rfl, _, rfl, by decide⟩⟩
theorem fd33_4 : Fd Tryz.prog 33 4 4 := ⟨⟨_, _, Tryz.underlying33, rfl, rfl, _, rfl, by decide⟩⟩
theorem fd33_5 : Fd Tryz.prog 33 5 5 := ⟨⟨_, _, Tryz.underlying33, rfl, rfl, _, rfl, by decide⟩⟩
theorem fd33_6 : Fd Tryz.prog 33 6 6 := ⟨⟨_, _, Tryz.underlying33, rfl, rfl, _, rfl, by decide⟩⟩
theorem fd33_7 : Fd Tryz.prog 33 7 7 := ⟨⟨_, _, Tryz.underlying33, rfl, rfl, _, rfl, by decide⟩⟩
theorem fd40_0 : Fd Tryz.prog 40 0 0 := ⟨⟨_, _, Tryz.underlying40, rfl, rfl, _, rfl, by decide⟩⟩
theorem fd40_1 : Fd Tryz.prog 40 1 1 := ⟨⟨_, _, Tryz.underlying40, rfl, rfl, _, rfl, by decide⟩⟩
theorem fd49_0 : Fd Tryz.prog 49 0 0 := ⟨⟨_, _, Tryz.underlying49, rfl, rfl, _, rfl, by decide⟩⟩
theorem fd49_1 : Fd Tryz.prog 49 1 1 := ⟨⟨_, _, Tryz.underlying49, rfl, rfl, _, rfl, by decide⟩⟩
theorem fd60_0 : Fd Tryz.prog 60 0 0 := ⟨⟨_, _, Tryz.underlying60, rfl, rfl, _, rfl, by decide⟩⟩
theorem fd60_1 : Fd Tryz.prog 60 1 1 := ⟨⟨_, _, Tryz.underlying60, rfl, rfl, _, rfl, by decide⟩⟩
theorem sc22 : Sc Tryz.prog 22 := ⟨⟨_, Tryz.underlying22, rfl⟩, ⟨_, rfl, rfl⟩⟩
theorem sc23 : Sc Tryz.prog 23 := ⟨⟨_, Tryz.underlying23, rfl⟩, ⟨_, rfl, rfl⟩⟩
theorem sc3 : Sc Tryz.prog 3 := ⟨⟨_, Tryz.underlying3, rfl⟩, ⟨_, rfl, rfl⟩⟩
theorem sc5 : Sc Tryz.prog 5 := ⟨⟨_, Tryz.underlying5, rfl⟩, ⟨_, rfl, rfl⟩⟩
theorem sc9 : Sc Tryz.prog 9 := ⟨⟨_, Tryz.underlying9, rfl⟩, ⟨_, rfl, rfl⟩⟩
theorem sl101 : SlT Tryz.prog 101 5 1 1 := ⟨Tryz.underlying101, ⟨_, _, rfl, rfl, rfl, rfl, rfl⟩⟩
theorem sl121 : SlT Tryz.prog 121 40 2 16 := ⟨Tryz.underlying121, ⟨_, _, rfl, rfl, rfl, rfl, rfl⟩⟩
theorem sl125 : SlT Tryz.prog 125 3 1 8 := ⟨Tryz.underlying125, ⟨_, _, rfl, rfl, rfl, rfl, rfl⟩⟩
theorem sl167 : SlT Tryz.prog 167 23 1 24 := ⟨Tryz.underlying167, ⟨_, _, rfl, rfl, rfl, rfl, rfl⟩⟩
theorem sl22 : SlT Tryz.prog 22 9 1 16 := ⟨Tryz.underlying22, ⟨_, _, rfl, rfl, rfl, rfl, rfl⟩⟩
theorem sl23 : SlT Tryz.prog 23 3 1 8 := ⟨Tryz.underlying23, ⟨_, _, rfl, rfl, rfl, rfl, rfl⟩⟩
theorem sl44 : SlT Tryz.prog 44 25 8 168 := ⟨Tryz.underlying44, ⟨_, _, rfl, rfl, rfl, rfl, rfl⟩⟩
theorem sl45 : SlT Tryz.prog 45 60 2 16 := ⟨Tryz.underlying45, ⟨_, _, rfl, rfl, rfl, rfl, rfl⟩⟩
theorem sl46 : SlT Tryz.prog 46 63 3 24 := ⟨Tryz.underlying46, ⟨_, _, rfl, rfl, rfl, rfl, rfl⟩⟩
theorem sl54 : SlT Tryz.prog 54 33 8 168 := ⟨Tryz.underlying54, ⟨_, _, rfl, rfl, rfl, rfl, rfl⟩⟩
theorem sl56 : SlT Tryz.prog 56 62 3 24 := ⟨Tryz.underlying56, ⟨_, _, rfl, rfl, rfl, rfl, rfl⟩⟩
theorem sl82 : SlT Tryz.prog 82 49 2 16 := ⟨Tryz.underlying82, ⟨_, _, rfl, rfl, rfl, rfl, rfl⟩⟩
theorem sl90 : SlT Tryz.prog 90 50 6 48 := ⟨Tryz.underlying90, ⟨_, _, rfl, rfl, rfl, rfl, rfl⟩⟩
theorem zr23 : Zr Tryz.prog 23 [.slice none 0 0] := ⟨⟨_, _, rfl, rfl, rfl, rfl⟩⟩
theorem zr25 : Zr Tryz.prog 25 [.int .i64 0, .slice none 0 0, .string ⟨#[]⟩, .slice none 0 0, .slice none 0 0, .slice none 0 0, .slice none 0 0, .slice none 0 0] := ⟨⟨_, _, rfl, rfl, rfl, rfl⟩⟩
theorem zr29 : Zr Tryz.prog 29 [.int .i64 0, .int .i64 0, .int .i64 0, .int .i64 0, .int .i64 0, .int .i64 0, .int .i64 0] := ⟨⟨_, _, rfl, rfl, rfl, rfl⟩⟩
theorem zr3 : Zr Tryz.prog 3 [.int .i64 0] := ⟨⟨_, _, rfl, rfl, rfl, rfl⟩⟩
theorem zr33 : Zr Tryz.prog 33 [.int .i64 0, .slice none 0 0, .string ⟨#[]⟩, .slice none 0 0, .slice none 0 0, .slice none 0 0, .slice none 0 0, .slice none 0 0] := ⟨⟨_, _, rfl, rfl, rfl, rfl⟩⟩
theorem zr35 : Zr Tryz.prog 35 [.int .i64 0, .int .i64 0, .int .i64 0, .int .i64 0, .int .i64 0, .int .i64 0, .int .i64 0] := ⟨⟨_, _, rfl, rfl, rfl, rfl⟩⟩
theorem zr49 : Zr Tryz.prog 49 [.int .i64 0, .int .i64 0] := ⟨⟨_, _, rfl, rfl, rfl, rfl⟩⟩
theorem zr52 : Zr Tryz.prog 52 [.int .i64 0, .int .i64 0, .int .i64 0, .int .i64 0, .int .i64 0, .int .i64 0, .int .i64 0, .int .i64 0, .int .i64 0, .int .i64 0, .int .i64 0, .int .i64 0, .int .i64 0, .int .i64 0, .int .i64 0, .int .i64 0, .int .i64 0, .int .i64 0, .int .i64 0, .int .i64 0, .int .i64 0, .int .i64 0, .int .i64 0, .int .i64 0, .int .i64 0, .int .i64 0, .int .i64 0, .int .i64 0, .int .i64 0, .int .i64 0, .int .i64 0, .int .i64 0, .int .i64 0, .int .i64 0, .int .i64 0, .int .i64 0, .int .i64 0, .int .i64 0, .int .i64 0, .int .i64 0, .int .i64 0, .int .i64 0] := ⟨⟨_, _, rfl, rfl, rfl, rfl⟩⟩
theorem zr60 : Zr Tryz.prog 60 [.int .i64 0, .int .i64 0] := ⟨⟨_, _, rfl, rfl, rfl, rfl⟩⟩
theorem zr62 : Zr Tryz.prog 62 [.int .i64 0, .int .i64 0, .int .i64 0] := ⟨⟨_, _, rfl, rfl, rfl, rfl⟩⟩
theorem zr63 : Zr Tryz.prog 63 [.int .i64 0, .int .i64 0, .int .i64 0] := ⟨⟨_, _, rfl, rfl, rfl, rfl⟩⟩
theorem zr87 : Zr Tryz.prog 87 [.int .i64 0, .int .i64 0, .int .i64 0, .int .i64 0, .int .i64 0, .int .i64 0] := ⟨⟨_, _, rfl, rfl, rfl, rfl⟩⟩
theorem zr88 : Zr Tryz.prog 88 [.int .i64 0, .int .i64 0, .int .i64 0, .int .i64 0, .int .i64 0, .int .i64 0, .int .i64 0, .int .i64 0, .int .i64 0, .int .i64 0, .int .i64 0, .int .i64 0, .int .i64 0, .int .i64 0, .int .i64 0, .int .i64 0, .int .i64 0, .int .i64 0, .int .i64 0, .int .i64 0, .int .i64 0, .int .i64 0, .int .i64 0, .int .i64 0, .int .i64 0, .int .i64 0, .int .i64 0, .int .i64 0, .int .i64 0, .int .i64 0, .int .i64 0, .int .i64 0, .int .i64 0, .int .i64 0, .int .i64 0, .int .i64 0, .int .i64 0, .int .i64 0, .int .i64 0, .int .i64 0, .int .i64 0, .int .i64 0] := ⟨⟨_, _, rfl, rfl, rfl, rfl⟩⟩
theorem ba29 : Ba Tryz.prog 29 [.int .i64 0, .int .i64 0, .int .i64 0, .int .i64 0, .int .i64 0, .int .i64 0, .int .i64 0] 7 3 1 := ⟨zr29, Tryz.underlying29, ⟨_, rfl, rfl⟩⟩
theorem ba35 : Ba Tryz.prog 35 [.int .i64 0, .int .i64 0, .int .i64 0, .int .i64 0, .int .i64 0, .int .i64 0, .int .i64 0] 7 3 1 := ⟨zr35, Tryz.underlying35, ⟨_, rfl, rfl⟩⟩
theorem ba87 : Ba Tryz.prog 87 [.int .i64 0, .int .i64 0, .int .i64 0, .int .i64 0, .int .i64 0, .int .i64 0] 6 3 1 := ⟨zr87, Tryz.underlying87, ⟨_, rfl, rfl⟩⟩
theorem ba88 : Ba Tryz.prog 88 [.int .i64 0, .int .i64 0, .int .i64 0, .int .i64 0, .int .i64 0, .int .i64 0, .int .i64 0, .int .i64 0, .int .i64 0, .int .i64 0, .int .i64 0, .int .i64 0, .int .i64 0, .int .i64 0, .int .i64 0, .int .i64 0, .int .i64 0, .int .i64 0, .int .i64 0, .int .i64 0, .int .i64 0, .int .i64 0, .int .i64 0, .int .i64 0, .int .i64 0, .int .i64 0, .int .i64 0, .int .i64 0, .int .i64 0, .int .i64 0, .int .i64 0, .int .i64 0, .int .i64 0, .int .i64 0, .int .i64 0, .int .i64 0, .int .i64 0, .int .i64 0, .int .i64 0, .int .i64 0, .int .i64 0, .int .i64 0] 7 87 6 := ⟨zr88, Tryz.underlying88, ⟨_, rfl, rfl⟩⟩
theorem bd33 : Bd Tryz.prog 33 [.int .i64 0, .slice none 0 0, .string ⟨#[]⟩, .slice none 0 0, .slice none 0 0, .slice none 0 0, .slice none 0 0, .slice none 0 0] [(0, 1), (1, 1), (2, 1), (3, 1), (4, 1), (5, 1), (6, 1), (7, 1)] := ⟨zr33, ⟨_, Tryz.underlying33, rfl⟩⟩
theorem bd49 : Bd Tryz.prog 49 [.int .i64 0, .int .i64 0] [(0, 1), (1, 1)] := ⟨zr49, ⟨_, Tryz.underlying49, rfl⟩⟩
theorem bd62 : Bd Tryz.prog 62 [.int .i64 0, .int .i64 0, .int .i64 0] [(0, 2), (2, 1)] := ⟨zr62, ⟨_, Tryz.underlying62, rfl⟩⟩
theorem bd63 : Bd Tryz.prog 63 [.int .i64 0, .int .i64 0, .int .i64 0] [(0, 2), (2, 1)] := ⟨zr63, ⟨_, Tryz.underlying63, rfl⟩⟩
section
variable {F : FC} {Q : Exit → St → Prop} {K : St → Prop} {ops : Array Oper} {dst : Option Nat} {o : Op} {ty : TypeId} {pos : String} {after : Array Edge} {rest : List Oper} {E : Nat → V} {H H' : List HE} {v : V}
theorem zs (h : OpV F.P o ty (ρ E) H v H') (k : AL F ops K rest ⟨updO E dst v, H'⟩) (hd : dlt dst F.n = true := by exact rfl) : AL F ops K (⟨dst, o, ty, pos, after, none⟩ :: rest) ⟨E, H⟩ := AL.s hd h k
theorem zm {x : Operand} {y : D} (h : ρ E x = .d y) (k : AL F ops K rest ⟨updO E dst (.d y), H⟩) (hd : dlt dst F.n = true := by exact rfl) : AL F ops K (⟨dst, .move x, ty, pos, after, none⟩ :: rest) ⟨E, H⟩ := AL.s hd (op_moveD (.e h)) k
theorem za {x : Operand} {y : D} (h : ρ E x = .d y) (k : AL F ops K rest ⟨updO E dst (.d y), H⟩) (hd : dlt dst F.n = true := by exact rfl) : AL F ops K (⟨dst, .assign x, ty, pos, after, none⟩ :: rest) ⟨E, H⟩ := AL.s hd (op_assignD (.e h)) k
theorem zr {st : St} {id : Nat} {y : Code} (h : AL F ops (AW F y Q) ops.toList st) : AW F (.seq (.region id ops false) y) Q st := AW.seqR h
theorem zn {st : St} (h : K st) : AL F ops K [] st := AL.nil h
end
end Go.Proofs.YtgcmhhcopeiomaaGreat.Ab
