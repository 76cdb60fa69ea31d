/- Facts on the types of this program. Conditions: none. -/
import Derived.Test.YtciojlggdnmncaaAb10
import Derived.Test.YtciojlggdnmncaaProg
namespace Go.Proofs.Ytciojlggdnmncaa.Ab
open Go
theorem mo : Try.prog.follows .mixedOrders = true := rfl
theorem al {p b : Bool} (h : (p && b) = true) : p = true := by simp at h; exact h.1
theorem ag24 : Ag Try.prog 24 9 := ⟨⟨_, Try.underlying24, rfl⟩, ⟨_, rfl, rfl⟩⟩
theorem ag29 : Ag Try.prog 29 9 := ⟨⟨_, Try.underlying29, rfl⟩, ⟨_, rfl, rfl⟩⟩
theorem ag43 : Ag Try.prog 43 4 := ⟨⟨_, Try.underlying43, rfl⟩, ⟨_, rfl, rfl⟩⟩
theorem ag44 : Ag Try.prog 44 4 := ⟨⟨_, Try.underlying44, rfl⟩, ⟨_, rfl, rfl⟩⟩
theorem fd24_0 : Fd Try.prog 24 0 0 := ⟨⟨_, _, Try.underlying24, rfl, rfl, _, rfl, by decide⟩⟩
theorem fd24_1 : Fd Try.prog 24 1 1 := ⟨⟨_, _, Try.underlying24, rfl, rfl, _, rfl, by decide⟩⟩
theorem fd24_2 : Fd Try.prog 24 2 2 := ⟨⟨_, _, Try.underlying24, rfl, rfl, _, rfl, by decide⟩⟩
theorem fd24_3 : Fd Try.prog 24 3 3 := ⟨⟨_, _, Try.underlying24, rfl, rfl, _, rfl, by decide⟩⟩
theorem fd24_4 : Fd Try.prog 24 4 4 := ⟨⟨_, _, Try.underlying24, rfl, rfl, _, rfl, by decide⟩⟩
theorem fd24_5 : Fd Try.prog 24 5 5 := ⟨⟨_, _, Try.underlying24, rfl, rfl, _, rfl, by decide⟩⟩
theorem fd24_6 : Fd Try.prog 24 6 6 := ⟨⟨_, _, Try.underlying24, rfl, rfl, _, rfl, by decide⟩⟩
theorem fd24_7 : Fd Try.prog 24 7 7 := ⟨⟨_, _, Try.underlying24, rfl, rfl, _, rfl, by decide⟩⟩
theorem fd24_8 : Fd Try.prog 24 8 8 := ⟨⟨_, _, Try.underlying24, rfl, rfl, _, rfl, by decide⟩⟩
theorem fd29_0 : Fd Try.prog 29 0 0 := ⟨⟨_, _, Try.underlying29, rfl, rfl, _, rfl, by decide⟩⟩
theorem fd29_1 : Fd Try.prog 29 1 1 := ⟨⟨_, _, Try.underlying29, rfl, rfl, _, rfl, by decide⟩⟩
theorem fd29_2 : Fd Try.prog 29 2 2 := ⟨⟨_, _, Try.underlying29, rfl, rfl, _, rfl, by decide⟩⟩
theorem fd29_3 : Fd Try.prog 29 3 3 := ⟨⟨_, _, Try.underlying29, rfl, rfl, _, rfl, by decide⟩⟩
theorem fd29_4 : Fd Try.prog 29 4 4 := ⟨⟨_, _, Try.underlying29, rfl, rfl, _, rfl, by decide⟩⟩
theorem fd29_5 : Fd Try.prog 29 5 5 := ⟨⟨_, _, Try.underlying29, rfl, rfl, _, rfl, by decide⟩⟩
theorem fd29_6 : Fd Try.prog 29 6 6 := ⟨⟨_, _, Try.underlying29, rfl, rfl, _, rfl, by decide⟩⟩
theorem fd29_7 : Fd Try.prog 29 7 7 := ⟨⟨_, _, Try.underlying29, rfl, rfl, _, rfl, by decide⟩⟩
theorem fd29_8 : Fd Try.prog 29 8 8 := ⟨⟨_, _, Try.underlying29, rfl, rfl, _, rfl, by decide⟩⟩
theorem fd43_0 : Fd Try.prog 43 0 0 := ⟨⟨_, _, Try.underlying43, rfl, rfl, _, rfl, by decide⟩⟩
theorem fd43_1 : Fd Try.prog 43 1 1 := ⟨⟨_, _, Try.underlying43, rfl, rfl, _, rfl, by decide⟩⟩
theorem fd43_2 : Fd Try.prog 43 2 2 := ⟨⟨_, _, Try.underlying43, rfl, rfl, _, rfl, by decide⟩⟩
theorem fd43_3 : Fd Try.prog 43 3 3 := ⟨⟨_, _, Try.underlying43, rfl, rfl, _, rfl, by decide⟩⟩
theorem fd44_0 : Fd Try.prog 44 0 0 := ⟨⟨_, _, Try.underlying44, rfl, rfl, _, rfl, by decide⟩⟩
theorem fd44_1 : Fd Try.prog 44 1 1 := ⟨⟨_, _, Try.underlying44, rfl, rfl, _, rfl, by decide⟩⟩
theorem fd44_2 : Fd Try.prog 44 2 2 := ⟨⟨_, _, Try.underlying44, rfl, rfl, _, rfl, by decide⟩⟩
theorem fd44_3 : Fd Try.prog 44 3 3 := ⟨⟨_, _, Try.underlying44, rfl, rfl, _, rfl, by decide⟩⟩
theorem sc22 : Sc Try.prog 22 := ⟨⟨_, Try.underlying22, rfl⟩, ⟨_, rfl, rfl⟩⟩
theorem sc3 : Sc Try.prog 3 := ⟨⟨_, Try.underlying3, rfl⟩, ⟨_, rfl, rfl⟩⟩
theorem sc47 : Sc Try.prog 47 := ⟨⟨_, Try.underlying47, rfl⟩, ⟨_, rfl, rfl⟩⟩
theorem sc5 : Sc Try.prog 5 := ⟨⟨_, Try.underlying5, rfl⟩, ⟨_, rfl, rfl⟩⟩
theorem sc71 : Sc Try.prog 71 := ⟨⟨_, Try.underlying71, rfl⟩, ⟨_, rfl, rfl⟩⟩
theorem sc9 : Sc Try.prog 9 := ⟨⟨_, Try.underlying9, rfl⟩, ⟨_, rfl, rfl⟩⟩
theorem sl22 : SlT Try.prog 22 9 1 16 := ⟨Try.underlying22, ⟨_, _, rfl, rfl, rfl, rfl, rfl⟩⟩
theorem sl25 : SlT Try.prog 25 44 4 40 := ⟨Try.underlying25, ⟨_, _, rfl, rfl, rfl, rfl, rfl⟩⟩
theorem sl34 : SlT Try.prog 34 43 4 40 := ⟨Try.underlying34, ⟨_, _, rfl, rfl, rfl, rfl, rfl⟩⟩
theorem sl47 : SlT Try.prog 47 3 1 8 := ⟨Try.underlying47, ⟨_, _, rfl, rfl, rfl, rfl, rfl⟩⟩
theorem sl73 : SlT Try.prog 73 5 1 1 := ⟨Try.underlying73, ⟨_, _, rfl, rfl, rfl, rfl, rfl⟩⟩
theorem zr24 : Zr Try.prog 24 [.int .i64 0, .int .i64 0, .string ⟨#[]⟩, .int .i64 0, .int .i64 0, .string ⟨#[]⟩, .slice none 0 0, .int .i64 0, .int .i64 0] := ⟨⟨_, _, rfl, rfl, rfl, rfl⟩⟩
theorem zr29 : Zr Try.prog 29 [.int .i64 0, .int .i64 0, .string ⟨#[]⟩, .int .i64 0, .int .i64 0, .string ⟨#[]⟩, .slice none 0 0, .int .i64 0, .int .i64 0] := ⟨⟨_, _, rfl, rfl, rfl, rfl⟩⟩
theorem zr43 : Zr Try.prog 43 [.int .i64 0, .int .i64 0, .string ⟨#[]⟩, .int .i64 0] := ⟨⟨_, _, rfl, rfl, rfl, rfl⟩⟩
theorem zr44 : Zr Try.prog 44 [.int .i64 0, .int .i64 0, .string ⟨#[]⟩, .int .i64 0] := ⟨⟨_, _, rfl, rfl, rfl, rfl⟩⟩
theorem zr67 : Zr Try.prog 67 [.slice none 0 0, .slice none 0 0, .slice none 0 0, .slice none 0 0, .slice none 0 0, .slice none 0 0, .slice none 0 0, .slice none 0 0, .slice none 0 0, .slice none 0 0] := ⟨⟨_, _, rfl, rfl, rfl, rfl⟩⟩
theorem zr68 : Zr Try.prog 68 [.string ⟨#[]⟩, .string ⟨#[]⟩, .string ⟨#[]⟩, .string ⟨#[]⟩, .string ⟨#[]⟩, .string ⟨#[]⟩, .string ⟨#[]⟩, .string ⟨#[]⟩, .string ⟨#[]⟩, .string ⟨#[]⟩] := ⟨⟨_, _, rfl, rfl, rfl, rfl⟩⟩
theorem zr69 : Zr Try.prog 69 [.string ⟨#[]⟩, .string ⟨#[]⟩, .string ⟨#[]⟩, .string ⟨#[]⟩, .string ⟨#[]⟩, .string ⟨#[]⟩, .string ⟨#[]⟩, .string ⟨#[]⟩, .string ⟨#[]⟩, .string ⟨#[]⟩, .string ⟨#[]⟩] := ⟨⟨_, _, rfl, rfl, rfl, rfl⟩⟩
theorem zr71 : Zr Try.prog 71 [.nilFunc] := ⟨⟨_, _, rfl, rfl, rfl, rfl⟩⟩
theorem ba67 : Ba Try.prog 67 [.slice none 0 0, .slice none 0 0, .slice none 0 0, .slice none 0 0, .slice none 0 0, .slice none 0 0, .slice none 0 0, .slice none 0 0, .slice none 0 0, .slice none 0 0] 10 47 1 := ⟨zr67, Try.underlying67, ⟨_, rfl, rfl⟩⟩
theorem ba68 : Ba Try.prog 68 [.string ⟨#[]⟩, .string ⟨#[]⟩, .string ⟨#[]⟩, .string ⟨#[]⟩, .string ⟨#[]⟩, .string ⟨#[]⟩, .string ⟨#[]⟩, .string ⟨#[]⟩, .string ⟨#[]⟩, .string ⟨#[]⟩] 10 9 1 := ⟨zr68, Try.underlying68, ⟨_, rfl, rfl⟩⟩
theorem ba69 : Ba Try.prog 69 [.string ⟨#[]⟩, .string ⟨#[]⟩, .string ⟨#[]⟩, .string ⟨#[]⟩, .string ⟨#[]⟩, .string ⟨#[]⟩, .string ⟨#[]⟩, .string ⟨#[]⟩, .string ⟨#[]⟩, .string ⟨#[]⟩, .string ⟨#[]⟩] 11 9 1 := ⟨zr69, Try.underlying69, ⟨_, rfl, rfl⟩⟩
theorem bd24 : Bd Try.prog 24 [.int .i64 0, .int .i64 0, .string ⟨#[]⟩, .int .i64 0, .int .i64 0, .string ⟨#[]⟩, .slice none 0 0, .int .i64 0, .int .i64 0] [(0, 1), (1, 1), (2, 1), (3, 1), (4, 1), (5, 1), (6, 1), (7, 1), (8, 1)] := ⟨zr24, ⟨_, Try.underlying24, rfl⟩⟩
theorem bd29 : Bd Try.prog 29 [.int .i64 0, .int .i64 0, .string ⟨#[]⟩, .int .i64 0, .int .i64 0, .string ⟨#[]⟩, .slice none 0 0, .int .i64 0, .int .i64 0] [(0, 1), (1, 1), (2, 1), (3, 1), (4, 1), (5, 1), (6, 1), (7, 1), (8, 1)] := ⟨zr29, ⟨_, Try.underlying29, rfl⟩⟩
theorem bd43 : Bd Try.prog 43 [.int .i64 0, .int .i64 0, .string ⟨#[]⟩, .int .i64 0] [(0, 1), (1, 1), (2, 1), (3, 1)] := ⟨zr43, ⟨_, Try.underlying43, rfl⟩⟩
end Go.Proofs.Ytciojlggdnmncaa.Ab
