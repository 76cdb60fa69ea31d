/- Facts on the types of this program. Conditions: none. -/
import Derived.Test.YtkfffaoopcnaoaaAb29
import Derived.Test.YtkfffaoopcnaoaaProg
set_option maxRecDepth 100000
namespace Go.Proofs.Ytkfffaoopcnaoaa.Ab
open Go
theorem mo : Try.prog.follows .mixedOrders = true := rfl
theorem ag50 : Ag Try.prog 50 3 := ⟨⟨_, Try.underlying50, rfl⟩, ⟨_, rfl, rfl⟩⟩
theorem fd50_0 : Fd Try.prog 50 0 0 := ⟨⟨_, _, Try.underlying50, rfl, rfl, _, rfl, by decide⟩⟩
theorem fd50_1 : Fd Try.prog 50 1 1 := ⟨⟨_, _, Try.underlying50, rfl, rfl, _, rfl, by decide⟩⟩
theorem fd50_2 : Fd Try.prog 50 2 2 := ⟨⟨_, _, Try.underlying50, rfl, rfl, _, rfl, by decide⟩⟩
theorem fd55_1 : Fd Try.prog 55 1 2 := ⟨⟨_, _, Try.underlying55, rfl, rfl, _, rfl, by decide⟩⟩
theorem sc3 : Sc Try.prog 3 := ⟨⟨_, Try.underlying3, rfl⟩, ⟨_, rfl, rfl⟩⟩
theorem sc42 : Sc Try.prog 42 := ⟨⟨_, Try.underlying42, rfl⟩, ⟨_, rfl, rfl⟩⟩
theorem sc63 : Sc Try.prog 63 := ⟨⟨_, Try.underlying63, rfl⟩, ⟨_, rfl, rfl⟩⟩
theorem sc64 : Sc Try.prog 64 := ⟨⟨_, Try.underlying64, rfl⟩, ⟨_, rfl, rfl⟩⟩
theorem sl22 : SlT Try.prog 22 50 3 24 := ⟨Try.underlying22, ⟨_, _, rfl, rfl, rfl, rfl, rfl⟩⟩
theorem sl29 : SlT Try.prog 29 42 1 24 := ⟨Try.underlying29, ⟨_, _, rfl, rfl, rfl, rfl, rfl⟩⟩
theorem sl32 : SlT Try.prog 32 55 3 40 := ⟨Try.underlying32, ⟨_, _, rfl, rfl, rfl, rfl, rfl⟩⟩
theorem sl42 : SlT Try.prog 42 3 1 8 := ⟨Try.underlying42, ⟨_, _, rfl, rfl, rfl, rfl, rfl⟩⟩
theorem zr3 : Zr Try.prog 3 [.int .i64 0] := ⟨⟨_, _, rfl, rfl, rfl, rfl⟩⟩
theorem zr50 : Zr Try.prog 50 [.int .i64 0, .int .i64 0, .int .i64 0] := ⟨⟨_, _, rfl, rfl, rfl, rfl⟩⟩
theorem zr53 : Zr Try.prog 53 [.int .i64 0, .int .i64 0] := ⟨⟨_, _, rfl, rfl, rfl, rfl⟩⟩
theorem zr55 : Zr Try.prog 55 [.int .i64 0, .int .i64 0, .slice none 0 0] := ⟨⟨_, _, rfl, rfl, rfl, rfl⟩⟩
theorem zr63 : Zr Try.prog 63 [.map none] := ⟨⟨_, _, rfl, rfl, rfl, rfl⟩⟩
theorem zr64 : Zr Try.prog 64 [.map none] := ⟨⟨_, _, rfl, rfl, rfl, rfl⟩⟩
theorem bd50 : Bd Try.prog 50 [.int .i64 0, .int .i64 0, .int .i64 0] [(0, 1), (1, 1), (2, 1)] := ⟨zr50, ⟨_, Try.underlying50, rfl⟩⟩
theorem bd53 : Bd Try.prog 53 [.int .i64 0, .int .i64 0] [(0, 1), (1, 1)] := ⟨zr53, ⟨_, Try.underlying53, rfl⟩⟩
theorem bd55 : Bd Try.prog 55 [.int .i64 0, .int .i64 0, .slice none 0 0] [(0, 2), (2, 1)] := ⟨zr55, ⟨_, Try.underlying55, rfl⟩⟩
end Go.Proofs.Ytkfffaoopcnaoaa.Ab
