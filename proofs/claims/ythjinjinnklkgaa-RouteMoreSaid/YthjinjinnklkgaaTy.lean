/- Facts on the types of this program. Conditions: none. -/
import Derived.Test.YthjinjinnklkgaaAb29
import Derived.Test.YthjinjinnklkgaaProg
set_option maxRecDepth 100000
namespace Go.Proofs.Ythjinjinnklkgaa.Ab
open Go
theorem mo : Try.prog.follows .mixedOrders = true := rfl
theorem al {p b : Bool} (h : (p && b) = true) : p = true := by simp at h; exact h.1
theorem ag25 : Ag Try.prog 25 3 := ⟨⟨_, Try.underlying25, rfl⟩, ⟨_, rfl, rfl⟩⟩
theorem ag27 : Ag Try.prog 27 2 := ⟨⟨_, Try.underlying27, rfl⟩, ⟨_, rfl, rfl⟩⟩
theorem ag30 : Ag Try.prog 30 3 := ⟨⟨_, Try.underlying30, rfl⟩, ⟨_, rfl, rfl⟩⟩
theorem ag31 : Ag Try.prog 31 2 := ⟨⟨_, Try.underlying31, rfl⟩, ⟨_, rfl, rfl⟩⟩
theorem fd25_0 : Fd Try.prog 25 0 0 := ⟨⟨_, _, Try.underlying25, rfl, rfl, _, rfl, by decide⟩⟩
theorem fd25_1 : Fd Try.prog 25 1 1 := ⟨⟨_, _, Try.underlying25, rfl, rfl, _, rfl, by decide⟩⟩
theorem fd25_2 : Fd Try.prog 25 2 2 := ⟨⟨_, _, Try.underlying25, rfl, rfl, _, rfl, by decide⟩⟩
theorem fd27_0 : Fd Try.prog 27 0 0 := ⟨⟨_, _, Try.underlying27, rfl, rfl, _, rfl, by decide⟩⟩
theorem fd27_1 : Fd Try.prog 27 1 1 := ⟨⟨_, _, Try.underlying27, rfl, rfl, _, rfl, by decide⟩⟩
theorem fd30_0 : Fd Try.prog 30 0 0 := ⟨⟨_, _, Try.underlying30, rfl, rfl, _, rfl, by decide⟩⟩
theorem fd30_1 : Fd Try.prog 30 1 1 := ⟨⟨_, _, Try.underlying30, rfl, rfl, _, rfl, by decide⟩⟩
theorem fd30_2 : Fd Try.prog 30 2 2 := ⟨⟨_, _, Try.underlying30, rfl, rfl, _, rfl, by decide⟩⟩
theorem fd31_0 : Fd Try.prog 31 0 0 := ⟨⟨_, _, Try.underlying31, rfl, rfl, _, rfl, by decide⟩⟩
theorem fd31_1 : Fd Try.prog 31 1 1 := ⟨⟨_, _, Try.underlying31, rfl, rfl, _, rfl, by decide⟩⟩
theorem fd88_0 : Fd Try.prog 88 0 0 := ⟨⟨_, _, Try.underlying88, rfl, rfl, _, rfl, by decide⟩⟩
theorem fd88_1 : Fd Try.prog 88 1 3 := ⟨⟨_, _, Try.underlying88, rfl, rfl, _, rfl, by decide⟩⟩
theorem fd88_2 : Fd Try.prog 88 2 4 := ⟨⟨_, _, Try.underlying88, rfl, rfl, _, rfl, by decide⟩⟩
theorem fd88_3 : Fd Try.prog 88 3 5 := ⟨⟨_, _, Try.underlying88, rfl, rfl, _, rfl, by decide⟩⟩
theorem sc22 : Sc Try.prog 22 := ⟨⟨_, Try.underlying22, rfl⟩, ⟨_, rfl, rfl⟩⟩
theorem sc23 : Sc Try.prog 23 := ⟨⟨_, Try.underlying23, rfl⟩, ⟨_, rfl, rfl⟩⟩
theorem sc3 : Sc Try.prog 3 := ⟨⟨_, Try.underlying3, rfl⟩, ⟨_, rfl, rfl⟩⟩
theorem sc5 : Sc Try.prog 5 := ⟨⟨_, Try.underlying5, rfl⟩, ⟨_, rfl, rfl⟩⟩
theorem sl22 : SlT Try.prog 22 23 1 24 := ⟨Try.underlying22, ⟨_, _, rfl, rfl, rfl, rfl, rfl⟩⟩
theorem sl23 : SlT Try.prog 23 3 1 8 := ⟨Try.underlying23, ⟨_, _, rfl, rfl, rfl, rfl, rfl⟩⟩
theorem sl49 : SlT Try.prog 49 25 3 56 := ⟨Try.underlying49, ⟨_, _, rfl, rfl, rfl, rfl, rfl⟩⟩
theorem zr25 : Zr Try.prog 25 [.slice none 0 0, .slice none 0 0, .int .i64 0] := ⟨⟨_, _, rfl, rfl, rfl, rfl⟩⟩
theorem zr3 : Zr Try.prog 3 [.int .i64 0] := ⟨⟨_, _, rfl, rfl, rfl, rfl⟩⟩
theorem zr30 : Zr Try.prog 30 [.slice none 0 0, .slice none 0 0, .int .i64 0] := ⟨⟨_, _, rfl, rfl, rfl, rfl⟩⟩
theorem zr31 : Zr Try.prog 31 [.slice none 0 0, .slice none 0 0] := ⟨⟨_, _, rfl, rfl, rfl, rfl⟩⟩
theorem zr88 : Zr Try.prog 88 [.slice none 0 0, .slice none 0 0, .int .i64 0, .slice none 0 0, .slice none 0 0, .int .i64 0] := ⟨⟨_, _, rfl, rfl, rfl, rfl⟩⟩
theorem bd30 : Bd Try.prog 30 [.slice none 0 0, .slice none 0 0, .int .i64 0] [(0, 1), (1, 1), (2, 1)] := ⟨zr30, ⟨_, Try.underlying30, rfl⟩⟩
theorem bd31 : Bd Try.prog 31 [.slice none 0 0, .slice none 0 0] [(0, 1), (1, 1)] := ⟨zr31, ⟨_, Try.underlying31, rfl⟩⟩
theorem bd88 : Bd Try.prog 88 [.slice none 0 0, .slice none 0 0, .int .i64 0, .slice none 0 0, .slice none 0 0, .int .i64 0] [(0, 3), (3, 1), (4, 1), (5, 1)] := ⟨zr88, ⟨_, Try.underlying88, rfl⟩⟩
end Go.Proofs.Ythjinjinnklkgaa.Ab
