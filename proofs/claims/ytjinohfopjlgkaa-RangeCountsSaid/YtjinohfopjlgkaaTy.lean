/- Facts on the types of this program. Conditions: none. -/
import Derived.Test.YtjinohfopjlgkaaAb29
import Derived.Test.YtjinohfopjlgkaaProg
set_option maxRecDepth 100000
namespace Go.Proofs.Ytjinohfopjlgkaa.Ab
open Go
theorem mo : Try.prog.follows .mixedOrders = true := rfl
theorem ag28 : Ag Try.prog 28 1 := ⟨⟨_, Try.underlying28, rfl⟩, ⟨_, rfl, rfl⟩⟩
theorem ag53 : Ag Try.prog 53 2 := ⟨⟨_, Try.underlying53, rfl⟩, ⟨_, rfl, rfl⟩⟩
theorem ag56 : Ag Try.prog 56 2 := ⟨⟨_, Try.underlying56, rfl⟩, ⟨_, rfl, rfl⟩⟩
theorem fd28_0 : Fd Try.prog 28 0 0 := ⟨⟨_, _, Try.underlying28, rfl, rfl, _, rfl, by decide⟩⟩
theorem fd53_0 : Fd Try.prog 53 0 0 := ⟨⟨_, _, Try.underlying53, rfl, rfl, _, rfl, by decide⟩⟩
theorem fd53_1 : Fd Try.prog 53 1 1 := ⟨⟨_, _, Try.underlying53, rfl, rfl, _, rfl, by decide⟩⟩
theorem fd56_0 : Fd Try.prog 56 0 0 := ⟨⟨_, _, Try.underlying56, rfl, rfl, _, rfl, by decide⟩⟩
theorem fd56_1 : Fd Try.prog 56 1 1 := ⟨⟨_, _, Try.underlying56, rfl, rfl, _, rfl, by decide⟩⟩
theorem fd83_0 : Fd Try.prog 83 0 0 := ⟨⟨_, _, Try.underlying83, rfl, rfl, _, rfl, by decide⟩⟩
theorem fd83_1 : Fd Try.prog 83 1 1 := ⟨⟨_, _, Try.underlying83, rfl, rfl, _, rfl, by decide⟩⟩
theorem sc26 : Sc Try.prog 26 := ⟨⟨_, Try.underlying26, rfl⟩, ⟨_, rfl, rfl⟩⟩
theorem sc3 : Sc Try.prog 3 := ⟨⟨_, Try.underlying3, rfl⟩, ⟨_, rfl, rfl⟩⟩
theorem sc34 : Sc Try.prog 34 := ⟨⟨_, Try.underlying34, rfl⟩, ⟨_, rfl, rfl⟩⟩
theorem sc4 : Sc Try.prog 4 := ⟨⟨_, Try.underlying4, rfl⟩, ⟨_, rfl, rfl⟩⟩
theorem sl119 : SlT Try.prog 119 26 1 24 := ⟨Try.underlying119, ⟨_, _, rfl, rfl, rfl, rfl, rfl⟩⟩
theorem sl24 : SlT Try.prog 24 53 2 16 := ⟨Try.underlying24, ⟨_, _, rfl, rfl, rfl, rfl, rfl⟩⟩
theorem sl26 : SlT Try.prog 26 34 1 24 := ⟨Try.underlying26, ⟨_, _, rfl, rfl, rfl, rfl, rfl⟩⟩
theorem sl34 : SlT Try.prog 34 56 2 16 := ⟨Try.underlying34, ⟨_, _, rfl, rfl, rfl, rfl, rfl⟩⟩
theorem sl41 : SlT Try.prog 41 83 3 24 := ⟨Try.underlying41, ⟨_, _, rfl, rfl, rfl, rfl, rfl⟩⟩
theorem sl45 : SlT Try.prog 45 3 1 8 := ⟨Try.underlying45, ⟨_, _, rfl, rfl, rfl, rfl, rfl⟩⟩
theorem zr28 : Zr Try.prog 28 [.slice none 0 0] := ⟨⟨_, _, rfl, rfl, rfl, rfl⟩⟩
theorem zr3 : Zr Try.prog 3 [.int .i64 0] := ⟨⟨_, _, rfl, rfl, rfl, rfl⟩⟩
theorem zr56 : Zr Try.prog 56 [.int .i64 0, .int .i64 0] := ⟨⟨_, _, rfl, rfl, rfl, rfl⟩⟩
theorem bd28 : Bd Try.prog 28 [.slice none 0 0] [(0, 1)] := ⟨zr28, ⟨_, Try.underlying28, rfl⟩⟩
theorem bd56 : Bd Try.prog 56 [.int .i64 0, .int .i64 0] [(0, 1), (1, 1)] := ⟨zr56, ⟨_, Try.underlying56, rfl⟩⟩
end Go.Proofs.Ytjinohfopjlgkaa.Ab
