/- Facts on the types of this program. Conditions: none. -/
import Derived.Test.YtgcmhhcopeiomaaAb29
import Derived.Test.YtgcmhhcopeiomaaProg
set_option maxRecDepth 100000
namespace Go.Proofs.Ytgcmhhcopeiomaa.Ab
open Go
theorem mo : Try.prog.follows .mixedOrders = true := rfl
theorem al {p b : Bool} (h : (p && b) = true) : p = true := by simp at h; exact h.1
theorem ag25 : Ag Try.prog 25 8 := ⟨⟨_, Try.underlying25, rfl⟩, ⟨_, rfl, rfl⟩⟩
theorem ag27 : Ag Try.prog 27 7 := ⟨⟨_, Try.underlying27, rfl⟩, ⟨_, rfl, rfl⟩⟩
theorem ag30 : Ag Try.prog 30 8 := ⟨⟨_, Try.underlying30, rfl⟩, ⟨_, rfl, rfl⟩⟩
theorem ag32 : Ag Try.prog 32 7 := ⟨⟨_, Try.underlying32, rfl⟩, ⟨_, rfl, rfl⟩⟩
theorem ag37 : Ag Try.prog 37 2 := ⟨⟨_, Try.underlying37, rfl⟩, ⟨_, rfl, rfl⟩⟩
theorem ag38 : Ag Try.prog 38 6 := ⟨⟨_, Try.underlying38, rfl⟩, ⟨_, rfl, rfl⟩⟩
theorem ag40 : Ag Try.prog 40 42 := ⟨⟨_, Try.underlying40, rfl⟩, ⟨_, rfl, rfl⟩⟩
theorem ag46 : Ag Try.prog 46 2 := ⟨⟨_, Try.underlying46, rfl⟩, ⟨_, rfl, rfl⟩⟩
theorem ag47 : Ag Try.prog 47 6 := ⟨⟨_, Try.underlying47, rfl⟩, ⟨_, rfl, rfl⟩⟩
theorem ag49 : Ag Try.prog 49 42 := ⟨⟨_, Try.underlying49, rfl⟩, ⟨_, rfl, rfl⟩⟩
theorem ag72 : Ag Try.prog 72 6 := ⟨⟨_, Try.underlying72, rfl⟩, ⟨_, rfl, rfl⟩⟩
theorem ag73 : Ag Try.prog 73 42 := ⟨⟨_, Try.underlying73, rfl⟩, ⟨_, rfl, rfl⟩⟩
theorem fd25_0 : Fd Try.prog 25 0 0 := ⟨⟨_, _, Try.underlying25, rfl, rfl, _, rfl, by decide⟩⟩
theorem fd25_1 : Fd Try.prog 25 1 1 := ⟨⟨_, _, Try.underlying25, rfl, rfl, _, rfl, by decide⟩⟩
theorem fd25_2 : Fd Try.prog 25 2 2 := ⟨⟨_, _, Try.underlying25, rfl, rfl, _, rfl, by decide⟩⟩
theorem fd25_3 : Fd Try.prog 25 3 3 := ⟨⟨_, _, Try.underlying25, rfl, rfl, _, rfl, by decide⟩⟩
theorem fd25_4 : Fd Try.prog 25 4 4 := ⟨⟨_, _, Try.underlying25, rfl, rfl, _, rfl, by decide⟩⟩
theorem fd25_5 : Fd Try.prog 25 5 5 := ⟨⟨_, _, Try.underlying25, rfl, rfl, _, rfl, by decide⟩⟩
theorem fd25_6 : Fd Try.prog 25 6 6 := ⟨⟨_, _, Try.underlying25, rfl, rfl, _, rfl, by decide⟩⟩
theorem fd25_7 : Fd Try.prog 25 7 7 := ⟨⟨_, _, Try.underlying25, rfl, rfl, _, rfl, by decide⟩⟩
theorem fd30_0 : Fd Try.prog 30 0 0 := ⟨⟨_, _, Try.underlying30, rfl, rfl, _, rfl, by decide⟩⟩
theorem fd30_1 : Fd Try.prog 30 1 1 := ⟨⟨_, _, Try.underlying30, rfl, rfl, _, rfl, by decide⟩⟩
theorem fd30_2 : Fd Try.prog 30 2 2 := ⟨⟨_, _, Try.underlying30, rfl, rfl, _, rfl, by decide⟩⟩
theorem fd30_3 : Fd Try.prog 30 3 3 := ⟨⟨_, _, Try.underlying30, rfl, rfl, _, rfl, by decide⟩⟩
theorem fd30_4 : Fd Try.prog 30 4 4 := ⟨⟨_, _, Try.underlying30, rfl, rfl, _, rfl, by decide⟩⟩
theorem fd30_5 : Fd Try.prog 30 5 5 := ⟨⟨_, _, Try.underlying30, rfl, rfl, _, rfl, by decide⟩⟩
theorem fd30_6 : Fd Try.prog 30 6 6 := ⟨⟨_, _, Try.underlying30, rfl, rfl, _, rfl, by decide⟩⟩
theorem fd30_7 : Fd Try.prog 30 7 7 := ⟨⟨_, _, Try.underlying30, rfl, rfl, _, rfl, by decide⟩⟩
theorem fd37_0 : Fd Try.prog 37 0 0 := ⟨⟨_, _, Try.underlying37, rfl, rfl, _, rfl, by decide⟩⟩
theorem fd37_1 : Fd Try.prog 37 1 1 := ⟨⟨_, _, Try.underlying37, rfl, rfl, _, rfl, by decide⟩⟩
theorem fd46_0 : Fd Try.prog 46 0 0 := ⟨⟨_, _, Try.underlying46, rfl, rfl, _, rfl, by decide⟩⟩
theorem fd46_1 : Fd Try.prog 46 1 1 := ⟨⟨_, _, Try.underlying46, rfl, rfl, _, rfl, by decide⟩⟩
theorem sc22 : Sc Try.prog 22 := ⟨⟨_, Try.underlying22, rfl⟩, ⟨_, rfl, rfl⟩⟩
theorem sc23 : Sc Try.prog 23 := ⟨⟨_, Try.underlying23, rfl⟩, ⟨_, rfl, rfl⟩⟩
theorem sc3 : Sc Try.prog 3 := ⟨⟨_, Try.underlying3, rfl⟩, ⟨_, rfl, rfl⟩⟩
theorem sc5 : Sc Try.prog 5 := ⟨⟨_, Try.underlying5, rfl⟩, ⟨_, rfl, rfl⟩⟩
theorem sc9 : Sc Try.prog 9 := ⟨⟨_, Try.underlying9, rfl⟩, ⟨_, rfl, rfl⟩⟩
theorem sl22 : SlT Try.prog 22 9 1 16 := ⟨Try.underlying22, ⟨_, _, rfl, rfl, rfl, rfl, rfl⟩⟩
theorem sl23 : SlT Try.prog 23 3 1 8 := ⟨Try.underlying23, ⟨_, _, rfl, rfl, rfl, rfl, rfl⟩⟩
theorem sl42 : SlT Try.prog 42 40 42 336 := ⟨Try.underlying42, ⟨_, _, rfl, rfl, rfl, rfl, rfl⟩⟩
theorem sl51 : SlT Try.prog 51 37 2 16 := ⟨Try.underlying51, ⟨_, _, rfl, rfl, rfl, rfl, rfl⟩⟩
theorem sl75 : SlT Try.prog 75 46 2 16 := ⟨Try.underlying75, ⟨_, _, rfl, rfl, rfl, rfl, rfl⟩⟩
theorem sl79 : SlT Try.prog 79 3 1 8 := ⟨Try.underlying79, ⟨_, _, rfl, rfl, rfl, rfl, rfl⟩⟩
theorem sl86 : SlT Try.prog 86 38 6 48 := ⟨Try.underlying86, ⟨_, _, rfl, rfl, rfl, rfl, rfl⟩⟩
theorem sl96 : SlT Try.prog 96 5 1 1 := ⟨Try.underlying96, ⟨_, _, rfl, rfl, rfl, rfl, rfl⟩⟩
theorem zr3 : Zr Try.prog 3 [.int .i64 0] := ⟨⟨_, _, rfl, rfl, rfl, rfl⟩⟩
theorem zr30 : Zr Try.prog 30 [.int .i64 0, .slice none 0 0, .string ⟨#[]⟩, .slice none 0 0, .slice none 0 0, .slice none 0 0, .slice none 0 0, .slice none 0 0] := ⟨⟨_, _, rfl, rfl, rfl, rfl⟩⟩
theorem zr32 : Zr Try.prog 32 [.int .i64 0, .int .i64 0, .int .i64 0, .int .i64 0, .int .i64 0, .int .i64 0, .int .i64 0] := ⟨⟨_, _, rfl, rfl, rfl, rfl⟩⟩
theorem zr37 : Zr Try.prog 37 [.int .i64 0, .int .i64 0] := ⟨⟨_, _, rfl, rfl, rfl, rfl⟩⟩
theorem zr40 : Zr Try.prog 40 [.int .i64 0, .int .i64 0, .int .i64 0, .int .i64 0, .int .i64 0, .int .i64 0, .int .i64 0, .int .i64 0, .int .i64 0, .int .i64 0, .int .i64 0, .int .i64 0, .int .i64 0, .int .i64 0, .int .i64 0, .int .i64 0, .int .i64 0, .int .i64 0, .int .i64 0, .int .i64 0, .int .i64 0, .int .i64 0, .int .i64 0, .int .i64 0, .int .i64 0, .int .i64 0, .int .i64 0, .int .i64 0, .int .i64 0, .int .i64 0, .int .i64 0, .int .i64 0, .int .i64 0, .int .i64 0, .int .i64 0, .int .i64 0, .int .i64 0, .int .i64 0, .int .i64 0, .int .i64 0, .int .i64 0, .int .i64 0] := ⟨⟨_, _, rfl, rfl, rfl, rfl⟩⟩
theorem zr46 : Zr Try.prog 46 [.int .i64 0, .int .i64 0] := ⟨⟨_, _, rfl, rfl, rfl, rfl⟩⟩
theorem zr49 : Zr Try.prog 49 [.int .i64 0, .int .i64 0, .int .i64 0, .int .i64 0, .int .i64 0, .int .i64 0, .int .i64 0, .int .i64 0, .int .i64 0, .int .i64 0, .int .i64 0, .int .i64 0, .int .i64 0, .int .i64 0, .int .i64 0, .int .i64 0, .int .i64 0, .int .i64 0, .int .i64 0, .int .i64 0, .int .i64 0, .int .i64 0, .int .i64 0, .int .i64 0, .int .i64 0, .int .i64 0, .int .i64 0, .int .i64 0, .int .i64 0, .int .i64 0, .int .i64 0, .int .i64 0, .int .i64 0, .int .i64 0, .int .i64 0, .int .i64 0, .int .i64 0, .int .i64 0, .int .i64 0, .int .i64 0, .int .i64 0, .int .i64 0] := ⟨⟨_, _, rfl, rfl, rfl, rfl⟩⟩
theorem zr72 : Zr Try.prog 72 [.int .i64 0, .int .i64 0, .int .i64 0, .int .i64 0, .int .i64 0, .int .i64 0] := ⟨⟨_, _, rfl, rfl, rfl, rfl⟩⟩
theorem zr73 : Zr Try.prog 73 [.int .i64 0, .int .i64 0, .int .i64 0, .int .i64 0, .int .i64 0, .int .i64 0, .int .i64 0, .int .i64 0, .int .i64 0, .int .i64 0, .int .i64 0, .int .i64 0, .int .i64 0, .int .i64 0, .int .i64 0, .int .i64 0, .int .i64 0, .int .i64 0, .int .i64 0, .int .i64 0, .int .i64 0, .int .i64 0, .int .i64 0, .int .i64 0, .int .i64 0, .int .i64 0, .int .i64 0, .int .i64 0, .int .i64 0, .int .i64 0, .int .i64 0, .int .i64 0, .int .i64 0, .int .i64 0, .int .i64 0, .int .i64 0, .int .i64 0, .int .i64 0, .int .i64 0, .int .i64 0, .int .i64 0, .int .i64 0] := ⟨⟨_, _, rfl, rfl, rfl, rfl⟩⟩
theorem ba32 : Ba Try.prog 32 [.int .i64 0, .int .i64 0, .int .i64 0, .int .i64 0, .int .i64 0, .int .i64 0, .int .i64 0] 7 3 1 := ⟨zr32, Try.underlying32, ⟨_, rfl, rfl⟩⟩
theorem ba72 : Ba Try.prog 72 [.int .i64 0, .int .i64 0, .int .i64 0, .int .i64 0, .int .i64 0, .int .i64 0] 6 3 1 := ⟨zr72, Try.underlying72, ⟨_, rfl, rfl⟩⟩
theorem ba73 : Ba Try.prog 73 [.int .i64 0, .int .i64 0, .int .i64 0, .int .i64 0, .int .i64 0, .int .i64 0, .int .i64 0, .int .i64 0, .int .i64 0, .int .i64 0, .int .i64 0, .int .i64 0, .int .i64 0, .int .i64 0, .int .i64 0, .int .i64 0, .int .i64 0, .int .i64 0, .int .i64 0, .int .i64 0, .int .i64 0, .int .i64 0, .int .i64 0, .int .i64 0, .int .i64 0, .int .i64 0, .int .i64 0, .int .i64 0, .int .i64 0, .int .i64 0, .int .i64 0, .int .i64 0, .int .i64 0, .int .i64 0, .int .i64 0, .int .i64 0, .int .i64 0, .int .i64 0, .int .i64 0, .int .i64 0, .int .i64 0, .int .i64 0] 7 72 6 := ⟨zr73, Try.underlying73, ⟨_, rfl, rfl⟩⟩
theorem bd30 : Bd Try.prog 30 [.int .i64 0, .slice none 0 0, .string ⟨#[]⟩, .slice none 0 0, .slice none 0 0, .slice none 0 0, .slice none 0 0, .slice none 0 0] [(0, 1), (1, 1), (2, 1), (3, 1), (4, 1), (5, 1), (6, 1), (7, 1)] := ⟨zr30, ⟨_, Try.underlying30, rfl⟩⟩
theorem bd37 : Bd Try.prog 37 [.int .i64 0, .int .i64 0] [(0, 1), (1, 1)] := ⟨zr37, ⟨_, Try.underlying37, rfl⟩⟩
theorem bd46 : Bd Try.prog 46 [.int .i64 0, .int .i64 0] [(0, 1), (1, 1)] := ⟨zr46, ⟨_, Try.underlying46, rfl⟩⟩
end Go.Proofs.Ytgcmhhcopeiomaa.Ab
