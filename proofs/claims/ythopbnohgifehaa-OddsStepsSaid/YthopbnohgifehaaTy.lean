/- Facts on the types of this program. Conditions: none. -/
import Derived.Test.YthopbnohgifehaaAb26
import Derived.Test.YthopbnohgifehaaProg
set_option maxRecDepth 100000
namespace Go.Proofs.Ythopbnohgifehaa.Ab
open Go
theorem mo : Try.prog.follows .mixedOrders = true := rfl
theorem al {p b : Bool} (h : (p && b) = true) : p = true := by simp at h; exact h.1
theorem ag49 : Ag Try.prog 49 2 := ⟨⟨_, Try.underlying49, rfl⟩, ⟨_, rfl, rfl⟩⟩
theorem ag54 : Ag Try.prog 54 2 := ⟨⟨_, Try.underlying54, rfl⟩, ⟨_, rfl, rfl⟩⟩
theorem fd49_0 : Fd Try.prog 49 0 0 := ⟨⟨_, _, Try.underlying49, rfl, rfl, _, rfl, by decide⟩⟩
theorem fd49_1 : Fd Try.prog 49 1 1 := ⟨⟨_, _, Try.underlying49, rfl, rfl, _, rfl, by decide⟩⟩
theorem fd54_0 : Fd Try.prog 54 0 0 := ⟨⟨_, _, Try.underlying54, rfl, rfl, _, rfl, by decide⟩⟩
theorem fd54_1 : Fd Try.prog 54 1 1 := ⟨⟨_, _, Try.underlying54, rfl, rfl, _, rfl, by decide⟩⟩
theorem sc26 : Sc Try.prog 26 := ⟨⟨_, Try.underlying26, rfl⟩, ⟨_, rfl, rfl⟩⟩
theorem sc3 : Sc Try.prog 3 := ⟨⟨_, Try.underlying3, rfl⟩, ⟨_, rfl, rfl⟩⟩
theorem sl22 : SlT Try.prog 22 54 2 16 := ⟨Try.underlying22, ⟨_, _, rfl, rfl, rfl, rfl, rfl⟩⟩
theorem sl25 : SlT Try.prog 25 3 1 8 := ⟨Try.underlying25, ⟨_, _, rfl, rfl, rfl, rfl, rfl⟩⟩
theorem sl26 : SlT Try.prog 26 3 1 8 := ⟨Try.underlying26, ⟨_, _, rfl, rfl, rfl, rfl, rfl⟩⟩
theorem sl30 : SlT Try.prog 30 49 2 16 := ⟨Try.underlying30, ⟨_, _, rfl, rfl, rfl, rfl, rfl⟩⟩
theorem zr26 : Zr Try.prog 26 [.slice none 0 0] := ⟨⟨_, _, rfl, rfl, rfl, rfl⟩⟩
theorem zr3 : Zr Try.prog 3 [.int .i64 0] := ⟨⟨_, _, rfl, rfl, rfl, rfl⟩⟩
theorem zr49 : Zr Try.prog 49 [.int .i64 0, .int .i64 0] := ⟨⟨_, _, rfl, rfl, rfl, rfl⟩⟩
theorem zr54 : Zr Try.prog 54 [.int .i64 0, .int .i64 0] := ⟨⟨_, _, rfl, rfl, rfl, rfl⟩⟩
theorem bd49 : Bd Try.prog 49 [.int .i64 0, .int .i64 0] [(0, 1), (1, 1)] := ⟨zr49, ⟨_, Try.underlying49, rfl⟩⟩
theorem bd54 : Bd Try.prog 54 [.int .i64 0, .int .i64 0] [(0, 1), (1, 1)] := ⟨zr54, ⟨_, Try.underlying54, rfl⟩⟩
end Go.Proofs.Ythopbnohgifehaa.Ab
