/- Facts on the types of this program. Conditions: none. -/
import Derived.Test.YteocmikmbiimcaaAb26
import Derived.Test.YteocmikmbiimcaaProg
set_option maxRecDepth 100000
namespace Go.Proofs.Yteocmikmbiimcaa.Ab
open Go
theorem mo : Try.prog.follows .mixedOrders = true := rfl
theorem al {p b : Bool} (h : (p && b) = true) : p = true := by simp at h; exact h.1
theorem ag22 : Ag Try.prog 22 2 := ⟨⟨_, Try.underlying22, rfl⟩, ⟨_, rfl, rfl⟩⟩
theorem ag26 : Ag Try.prog 26 9 := ⟨⟨_, Try.underlying26, rfl⟩, ⟨_, rfl, rfl⟩⟩
theorem ag32 : Ag Try.prog 32 4 := ⟨⟨_, Try.underlying32, rfl⟩, ⟨_, rfl, rfl⟩⟩
theorem ag33 : Ag Try.prog 33 4 := ⟨⟨_, Try.underlying33, rfl⟩, ⟨_, rfl, rfl⟩⟩
theorem ag38 : Ag Try.prog 38 2 := ⟨⟨_, Try.underlying38, rfl⟩, ⟨_, rfl, rfl⟩⟩
theorem ag43 : Ag Try.prog 43 3 := ⟨⟨_, Try.underlying43, rfl⟩, ⟨_, rfl, rfl⟩⟩
theorem ag47 : Ag Try.prog 47 4 := ⟨⟨_, Try.underlying47, rfl⟩, ⟨_, rfl, rfl⟩⟩
theorem fd26_0 : Fd Try.prog 26 0 0 := ⟨⟨_, _, Try.underlying26, rfl, rfl, _, rfl, by decide⟩⟩
theorem fd26_1 : Fd Try.prog 26 1 1 := ⟨⟨_, _, Try.underlying26, rfl, rfl, _, rfl, by decide⟩⟩
theorem fd26_2 : Fd Try.prog 26 2 2 := ⟨⟨_, _, Try.underlying26, rfl, rfl, _, rfl, by decide⟩⟩
theorem fd26_3 : Fd Try.prog 26 3 3 := ⟨⟨_, _, Try.underlying26, rfl, rfl, _, rfl, by decide⟩⟩
theorem fd26_4 : Fd Try.prog 26 4 4 := ⟨⟨_, _, Try.underlying26, rfl, rfl, _, rfl, by decide⟩⟩
theorem fd26_5 : Fd Try.prog 26 5 5 := ⟨⟨_, _, Try.underlying26, rfl, rfl, _, rfl, by decide⟩⟩
theorem fd26_6 : Fd Try.prog 26 6 6 := ⟨⟨_, _, Try.underlying26, rfl, rfl, _, rfl, by decide⟩⟩
theorem fd26_7 : Fd Try.prog 26 7 7 := ⟨⟨_, _, Try.underlying26, rfl, rfl, _, rfl, by decide⟩⟩
theorem fd26_8 : Fd Try.prog 26 8 8 := ⟨⟨_, _, Try.underlying26, rfl, rfl, _, rfl, by decide⟩⟩
theorem fd32_0 : Fd Try.prog 32 0 0 := ⟨⟨_, _, Try.underlying32, rfl, rfl, _, rfl, by decide⟩⟩
theorem fd33_0 : Fd Try.prog 33 0 0 := ⟨⟨_, _, Try.underlying33, rfl, rfl, _, rfl, by decide⟩⟩
theorem fd33_1 : Fd Try.prog 33 1 1 := ⟨⟨_, _, Try.underlying33, rfl, rfl, _, rfl, by decide⟩⟩
theorem fd33_2 : Fd Try.prog 33 2 3 := ⟨⟨_, _, Try.underlying33, rfl, rfl, _, rfl, by decide⟩⟩
theorem fd38_0 : Fd Try.prog 38 0 0 := ⟨⟨_, _, Try.underlying38, rfl, rfl, _, rfl, by decide⟩⟩
theorem fd38_1 : Fd Try.prog 38 1 1 := ⟨⟨_, _, Try.underlying38, rfl, rfl, _, rfl, by decide⟩⟩
theorem fd43_0 : Fd Try.prog 43 0 0 := ⟨⟨_, _, Try.underlying43, rfl, rfl, _, rfl, by decide⟩⟩
theorem fd43_1 : Fd Try.prog 43 1 1 := ⟨⟨_, _, Try.underlying43, rfl, rfl, _, rfl, by decide⟩⟩
theorem fd43_2 : Fd Try.prog 43 2 2 := ⟨⟨_, _, Try.underlying43, rfl, rfl, _, rfl, by decide⟩⟩
theorem fd47_0 : Fd Try.prog 47 0 0 := ⟨⟨_, _, Try.underlying47, rfl, rfl, _, rfl, by decide⟩⟩
theorem fd47_1 : Fd Try.prog 47 1 1 := ⟨⟨_, _, Try.underlying47, rfl, rfl, _, rfl, by decide⟩⟩
theorem fd47_2 : Fd Try.prog 47 2 2 := ⟨⟨_, _, Try.underlying47, rfl, rfl, _, rfl, by decide⟩⟩
theorem fd47_3 : Fd Try.prog 47 3 3 := ⟨⟨_, _, Try.underlying47, rfl, rfl, _, rfl, by decide⟩⟩
theorem fd80_0 : Fd Try.prog 80 0 0 := ⟨⟨_, _, Try.underlying80, rfl, rfl, _, rfl, by decide⟩⟩
theorem fd80_1 : Fd Try.prog 80 1 3 := ⟨⟨_, _, Try.underlying80, rfl, rfl, _, rfl, by decide⟩⟩
theorem fd80_2 : Fd Try.prog 80 2 4 := ⟨⟨_, _, Try.underlying80, rfl, rfl, _, rfl, by decide⟩⟩
theorem fd80_3 : Fd Try.prog 80 3 5 := ⟨⟨_, _, Try.underlying80, rfl, rfl, _, rfl, by decide⟩⟩
theorem sc24 : Sc Try.prog 24 := ⟨⟨_, Try.underlying24, rfl⟩, ⟨_, rfl, rfl⟩⟩
theorem sc3 : Sc Try.prog 3 := ⟨⟨_, Try.underlying3, rfl⟩, ⟨_, rfl, rfl⟩⟩
theorem sc34 : Sc Try.prog 34 := ⟨⟨_, Try.underlying34, rfl⟩, ⟨_, rfl, rfl⟩⟩
theorem sc41 : Sc Try.prog 41 := ⟨⟨_, Try.underlying41, rfl⟩, ⟨_, rfl, rfl⟩⟩
theorem sc5 : Sc Try.prog 5 := ⟨⟨_, Try.underlying5, rfl⟩, ⟨_, rfl, rfl⟩⟩
theorem sc68 : Sc Try.prog 68 := ⟨⟨_, Try.underlying68, rfl⟩, ⟨_, rfl, rfl⟩⟩
theorem sc9 : Sc Try.prog 9 := ⟨⟨_, Try.underlying9, rfl⟩, ⟨_, rfl, rfl⟩⟩
theorem sl23 : SlT Try.prog 23 32 4 40 := ⟨Try.underlying23, ⟨_, _, rfl, rfl, rfl, rfl, rfl⟩⟩
theorem sl24 : SlT Try.prog 24 9 1 16 := ⟨Try.underlying24, ⟨_, _, rfl, rfl, rfl, rfl, rfl⟩⟩
theorem sl30 : SlT Try.prog 30 33 4 40 := ⟨Try.underlying30, ⟨_, _, rfl, rfl, rfl, rfl, rfl⟩⟩
theorem sl34 : SlT Try.prog 34 3 1 8 := ⟨Try.underlying34, ⟨_, _, rfl, rfl, rfl, rfl, rfl⟩⟩
theorem sl41 : SlT Try.prog 41 34 1 24 := ⟨Try.underlying41, ⟨_, _, rfl, rfl, rfl, rfl, rfl⟩⟩
theorem sl70 : SlT Try.prog 70 5 1 1 := ⟨Try.underlying70, ⟨_, _, rfl, rfl, rfl, rfl, rfl⟩⟩
theorem zr26 : Zr Try.prog 26 [.int .i64 0, .int .i64 0, .string ⟨#[]⟩, .int .i64 0, .int .i64 0, .string ⟨#[]⟩, .slice none 0 0, .int .i64 0, .int .i64 0] := ⟨⟨_, _, rfl, rfl, rfl, rfl⟩⟩
theorem zr3 : Zr Try.prog 3 [.int .i64 0] := ⟨⟨_, _, rfl, rfl, rfl, rfl⟩⟩
theorem zr32 : Zr Try.prog 32 [.string ⟨#[]⟩, .int .i64 0, .int .i64 0, .int .i64 0] := ⟨⟨_, _, rfl, rfl, rfl, rfl⟩⟩
theorem zr33 : Zr Try.prog 33 [.string ⟨#[]⟩, .int .i64 0, .int .i64 0, .int .i64 0] := ⟨⟨_, _, rfl, rfl, rfl, rfl⟩⟩
theorem zr38 : Zr Try.prog 38 [.slice none 0 0, .slice none 0 0] := ⟨⟨_, _, rfl, rfl, rfl, rfl⟩⟩
theorem zr43 : Zr Try.prog 43 [.slice none 0 0, .slice none 0 0, .int .i64 0] := ⟨⟨_, _, rfl, rfl, rfl, rfl⟩⟩
theorem zr47 : Zr Try.prog 47 [.int .i64 0, .int .i64 0, .string ⟨#[]⟩, .int .i64 0] := ⟨⟨_, _, rfl, rfl, rfl, rfl⟩⟩
theorem zr68 : Zr Try.prog 68 [.nilFunc] := ⟨⟨_, _, rfl, rfl, rfl, rfl⟩⟩
theorem zr80 : Zr Try.prog 80 [.slice none 0 0, .slice none 0 0, .int .i64 0, .slice none 0 0, .slice none 0 0, .int .i64 0] := ⟨⟨_, _, rfl, rfl, rfl, rfl⟩⟩
theorem zr85 : Zr Try.prog 85 [.slice none 0 0, .slice none 0 0, .slice none 0 0, .slice none 0 0, .slice none 0 0, .slice none 0 0, .slice none 0 0, .slice none 0 0, .slice none 0 0, .slice none 0 0] := ⟨⟨_, _, rfl, rfl, rfl, rfl⟩⟩
theorem ba85 : Ba Try.prog 85 [.slice none 0 0, .slice none 0 0, .slice none 0 0, .slice none 0 0, .slice none 0 0, .slice none 0 0, .slice none 0 0, .slice none 0 0, .slice none 0 0, .slice none 0 0] 10 34 1 := ⟨zr85, Try.underlying85, ⟨_, rfl, rfl⟩⟩
theorem bd26 : Bd Try.prog 26 [.int .i64 0, .int .i64 0, .string ⟨#[]⟩, .int .i64 0, .int .i64 0, .string ⟨#[]⟩, .slice none 0 0, .int .i64 0, .int .i64 0] [(0, 1), (1, 1), (2, 1), (3, 1), (4, 1), (5, 1), (6, 1), (7, 1), (8, 1)] := ⟨zr26, ⟨_, Try.underlying26, rfl⟩⟩
theorem bd38 : Bd Try.prog 38 [.slice none 0 0, .slice none 0 0] [(0, 1), (1, 1)] := ⟨zr38, ⟨_, Try.underlying38, rfl⟩⟩
theorem bd43 : Bd Try.prog 43 [.slice none 0 0, .slice none 0 0, .int .i64 0] [(0, 1), (1, 1), (2, 1)] := ⟨zr43, ⟨_, Try.underlying43, rfl⟩⟩
theorem bd47 : Bd Try.prog 47 [.int .i64 0, .int .i64 0, .string ⟨#[]⟩, .int .i64 0] [(0, 1), (1, 1), (2, 1), (3, 1)] := ⟨zr47, ⟨_, Try.underlying47, rfl⟩⟩
theorem bd80 : Bd Try.prog 80 [.slice none 0 0, .slice none 0 0, .int .i64 0, .slice none 0 0, .slice none 0 0, .int .i64 0] [(0, 3), (3, 1), (4, 1), (5, 1)] := ⟨zr80, ⟨_, Try.underlying80, rfl⟩⟩
end Go.Proofs.Yteocmikmbiimcaa.Ab
