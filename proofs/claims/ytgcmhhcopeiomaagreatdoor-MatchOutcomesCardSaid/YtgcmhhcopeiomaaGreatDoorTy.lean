/- Facts on the types of this program. Conditions: none. -/
import Derived.Test.YtgcmhhcopeiomaaGreatDoorAb29
import Derived.Test.YtgcmhhcopeiomaaGreatDoorProg
set_option maxRecDepth 100000
namespace Go.Proofs.YtgcmhhcopeiomaaGreatDoor.Ab
open Go
theorem mo : Tryz.prog.follows .mixedOrders = true := rfl
theorem ag23 : Ag Tryz.prog 23 2 := ⟨⟨_, Tryz.underlying23, rfl⟩, ⟨_, rfl, rfl⟩⟩
theorem ag26 : Ag Tryz.prog 26 42 := ⟨⟨_, Tryz.underlying26, rfl⟩, ⟨_, rfl, rfl⟩⟩
theorem ag28 : Ag Tryz.prog 28 7 := ⟨⟨_, Tryz.underlying28, rfl⟩, ⟨_, rfl, rfl⟩⟩
theorem ag34 : Ag Tryz.prog 34 2 := ⟨⟨_, Tryz.underlying34, rfl⟩, ⟨_, rfl, rfl⟩⟩
theorem ag35 : Ag Tryz.prog 35 6 := ⟨⟨_, Tryz.underlying35, rfl⟩, ⟨_, rfl, rfl⟩⟩
theorem ag37 : Ag Tryz.prog 37 42 := ⟨⟨_, Tryz.underlying37, rfl⟩, ⟨_, rfl, rfl⟩⟩
theorem ag39 : Ag Tryz.prog 39 7 := ⟨⟨_, Tryz.underlying39, rfl⟩, ⟨_, rfl, rfl⟩⟩
theorem ag54 : Ag Tryz.prog 54 8 := ⟨⟨_, Tryz.underlying54, rfl⟩, ⟨_, rfl, rfl⟩⟩
theorem ag73 : Ag Tryz.prog 73 6 := ⟨⟨_, Tryz.underlying73, rfl⟩, ⟨_, rfl, rfl⟩⟩
theorem ag74 : Ag Tryz.prog 74 42 := ⟨⟨_, Tryz.underlying74, rfl⟩, ⟨_, rfl, rfl⟩⟩
theorem fd23_0 : Fd Tryz.prog 23 0 0 := ⟨⟨_, _, Tryz.underlying23, rfl, rfl, _, rfl, by decide⟩⟩
theorem fd23_1 : Fd Tryz.prog 23 1 1 := ⟨⟨_, _, Tryz.underlying23, rfl, rfl, _, rfl, by decide⟩⟩
theorem fd34_0 : Fd Tryz.prog 34 0 0 := ⟨⟨_, _, Tryz.underlying34, rfl, rfl, _, rfl, by decide⟩⟩
theorem fd34_1 : Fd Tryz.prog 34 1 1 := ⟨⟨_, _, Tryz.underlying34, rfl, rfl, _, rfl, by decide⟩⟩
theorem fd54_0 : Fd Tryz.prog 54 0 0 := ⟨⟨_, _, Tryz.underlying54, rfl, rfl, _, rfl, by decide⟩⟩
theorem fd54_1 : Fd Tryz.prog 54 1 1 := ⟨⟨_, _, Tryz.underlying54, rfl, rfl, _, rfl, by decide⟩⟩
theorem fd54_2 : Fd Tryz.prog 54 2 2 := ⟨⟨_, _, Tryz.underlying54, rfl, rfl, _, rfl, by decide⟩⟩
theorem fd54_3 : Fd Tryz.prog 54 3 3 := ⟨⟨_, _, Tryz.underlying54, rfl, rfl, _, rfl, by decide⟩⟩
theorem fd54_4 : Fd Tryz.prog 54 4 4 := ⟨⟨_, _, Tryz.underlying54, rfl, rfl, _, rfl, by decide⟩⟩
theorem fd54_5 : Fd Tryz.prog 54 5 5 := ⟨⟨_, _, Tryz.underlying54, rfl, rfl, _, rfl, by decide⟩⟩
theorem fd54_6 : Fd Tryz.prog 54 6 6 := ⟨⟨_, _, Tryz.underlying54, rfl, rfl, _, rfl, by decide⟩⟩
theorem fd54_7 : Fd Tryz.prog 54 7 7 := ⟨⟨_, _, Tryz.underlying54, rfl, rfl, _, rfl, by decide⟩⟩
theorem sc3 : Sc Tryz.prog 3 := ⟨⟨_, Tryz.underlying3, rfl⟩, ⟨_, rfl, rfl⟩⟩
theorem sc46 : Sc Tryz.prog 46 := ⟨⟨_, Tryz.underlying46, rfl⟩, ⟨_, rfl, rfl⟩⟩
theorem sc5 : Sc Tryz.prog 5 := ⟨⟨_, Tryz.underlying5, rfl⟩, ⟨_, rfl, rfl⟩⟩
theorem sc52 : Sc Tryz.prog 52 := ⟨⟨_, Tryz.underlying52, rfl⟩, ⟨_, rfl, rfl⟩⟩
theorem sc9 : Sc Tryz.prog 9 := ⟨⟨_, Tryz.underlying9, rfl⟩, ⟨_, rfl, rfl⟩⟩
theorem sl30 : SlT Tryz.prog 30 34 2 16 := ⟨Tryz.underlying30, ⟨_, _, rfl, rfl, rfl, rfl, rfl⟩⟩
theorem sl40 : SlT Tryz.prog 40 23 2 16 := ⟨Tryz.underlying40, ⟨_, _, rfl, rfl, rfl, rfl, rfl⟩⟩
theorem sl46 : SlT Tryz.prog 46 9 1 16 := ⟨Tryz.underlying46, ⟨_, _, rfl, rfl, rfl, rfl, rfl⟩⟩
theorem sl52 : SlT Tryz.prog 52 3 1 8 := ⟨Tryz.underlying52, ⟨_, _, rfl, rfl, rfl, rfl, rfl⟩⟩
theorem sl76 : SlT Tryz.prog 76 35 6 48 := ⟨Tryz.underlying76, ⟨_, _, rfl, rfl, rfl, rfl, rfl⟩⟩
theorem sl81 : SlT Tryz.prog 81 3 1 8 := ⟨Tryz.underlying81, ⟨_, _, rfl, rfl, rfl, rfl, rfl⟩⟩
theorem sl92 : SlT Tryz.prog 92 5 1 1 := ⟨Tryz.underlying92, ⟨_, _, rfl, rfl, rfl, rfl, rfl⟩⟩
theorem zr23 : Zr Tryz.prog 23 [.int .i64 0, .int .i64 0] := ⟨⟨_, _, rfl, rfl, rfl, rfl⟩⟩
theorem zr3 : Zr Tryz.prog 3 [.int .i64 0] := ⟨⟨_, _, rfl, rfl, rfl, rfl⟩⟩
theorem zr34 : Zr Tryz.prog 34 [.int .i64 0, .int .i64 0] := ⟨⟨_, _, rfl, rfl, rfl, rfl⟩⟩
theorem zr37 : Zr Tryz.prog 37 [.int .i64 0, .int .i64 0, .int .i64 0, .int .i64 0, .int .i64 0, .int .i64 0, .int .i64 0, .int .i64 0, .int .i64 0, .int .i64 0, .int .i64 0, .int .i64 0, .int .i64 0, .int .i64 0, .int .i64 0, .int .i64 0, .int .i64 0, .int .i64 0, .int .i64 0, .int .i64 0, .int .i64 0, .int .i64 0, .int .i64 0, .int .i64 0, .int .i64 0, .int .i64 0, .int .i64 0, .int .i64 0, .int .i64 0, .int .i64 0, .int .i64 0, .int .i64 0, .int .i64 0, .int .i64 0, .int .i64 0, .int .i64 0, .int .i64 0, .int .i64 0, .int .i64 0, .int .i64 0, .int .i64 0, .int .i64 0] := ⟨⟨_, _, rfl, rfl, rfl, rfl⟩⟩
theorem zr39 : Zr Tryz.prog 39 [.int .i64 0, .int .i64 0, .int .i64 0, .int .i64 0, .int .i64 0, .int .i64 0, .int .i64 0] := ⟨⟨_, _, rfl, rfl, rfl, rfl⟩⟩
theorem zr54 : Zr Tryz.prog 54 [.int .i64 0, .slice none 0 0, .string ⟨#[]⟩, .slice none 0 0, .slice none 0 0, .slice none 0 0, .slice none 0 0, .slice none 0 0] := ⟨⟨_, _, rfl, rfl, rfl, rfl⟩⟩
theorem zr64 : Zr Tryz.prog 64 [.string ⟨#[]⟩, .string ⟨#[]⟩, .string ⟨#[]⟩, .string ⟨#[]⟩, .string ⟨#[]⟩, .string ⟨#[]⟩, .string ⟨#[]⟩] := ⟨⟨_, _, rfl, rfl, rfl, rfl⟩⟩
theorem zr65 : Zr Tryz.prog 65 [.string ⟨#[]⟩, .string ⟨#[]⟩, .string ⟨#[]⟩, .string ⟨#[]⟩] := ⟨⟨_, _, rfl, rfl, rfl, rfl⟩⟩
theorem zr73 : Zr Tryz.prog 73 [.int .i64 0, .int .i64 0, .int .i64 0, .int .i64 0, .int .i64 0, .int .i64 0] := ⟨⟨_, _, rfl, rfl, rfl, rfl⟩⟩
theorem zr74 : Zr Tryz.prog 74 [.int .i64 0, .int .i64 0, .int .i64 0, .int .i64 0, .int .i64 0, .int .i64 0, .int .i64 0, .int .i64 0, .int .i64 0, .int .i64 0, .int .i64 0, .int .i64 0, .int .i64 0, .int .i64 0, .int .i64 0, .int .i64 0, .int .i64 0, .int .i64 0, .int .i64 0, .int .i64 0, .int .i64 0, .int .i64 0, .int .i64 0, .int .i64 0, .int .i64 0, .int .i64 0, .int .i64 0, .int .i64 0, .int .i64 0, .int .i64 0, .int .i64 0, .int .i64 0, .int .i64 0, .int .i64 0, .int .i64 0, .int .i64 0, .int .i64 0, .int .i64 0, .int .i64 0, .int .i64 0, .int .i64 0, .int .i64 0] := ⟨⟨_, _, rfl, rfl, rfl, rfl⟩⟩
theorem ba39 : Ba Tryz.prog 39 [.int .i64 0, .int .i64 0, .int .i64 0, .int .i64 0, .int .i64 0, .int .i64 0, .int .i64 0] 7 3 1 := ⟨zr39, Tryz.underlying39, ⟨_, rfl, rfl⟩⟩
theorem ba64 : Ba Tryz.prog 64 [.string ⟨#[]⟩, .string ⟨#[]⟩, .string ⟨#[]⟩, .string ⟨#[]⟩, .string ⟨#[]⟩, .string ⟨#[]⟩, .string ⟨#[]⟩] 7 9 1 := ⟨zr64, Tryz.underlying64, ⟨_, rfl, rfl⟩⟩
theorem ba65 : Ba Tryz.prog 65 [.string ⟨#[]⟩, .string ⟨#[]⟩, .string ⟨#[]⟩, .string ⟨#[]⟩] 4 9 1 := ⟨zr65, Tryz.underlying65, ⟨_, rfl, rfl⟩⟩
theorem ba73 : Ba Tryz.prog 73 [.int .i64 0, .int .i64 0, .int .i64 0, .int .i64 0, .int .i64 0, .int .i64 0] 6 3 1 := ⟨zr73, Tryz.underlying73, ⟨_, rfl, rfl⟩⟩
theorem ba74 : Ba Tryz.prog 74 [.int .i64 0, .int .i64 0, .int .i64 0, .int .i64 0, .int .i64 0, .int .i64 0, .int .i64 0, .int .i64 0, .int .i64 0, .int .i64 0, .int .i64 0, .int .i64 0, .int .i64 0, .int .i64 0, .int .i64 0, .int .i64 0, .int .i64 0, .int .i64 0, .int .i64 0, .int .i64 0, .int .i64 0, .int .i64 0, .int .i64 0, .int .i64 0, .int .i64 0, .int .i64 0, .int .i64 0, .int .i64 0, .int .i64 0, .int .i64 0, .int .i64 0, .int .i64 0, .int .i64 0, .int .i64 0, .int .i64 0, .int .i64 0, .int .i64 0, .int .i64 0, .int .i64 0, .int .i64 0, .int .i64 0, .int .i64 0] 7 73 6 := ⟨zr74, Tryz.underlying74, ⟨_, rfl, rfl⟩⟩
theorem bd34 : Bd Tryz.prog 34 [.int .i64 0, .int .i64 0] [(0, 1), (1, 1)] := ⟨zr34, ⟨_, Tryz.underlying34, rfl⟩⟩
theorem bd54 : Bd Tryz.prog 54 [.int .i64 0, .slice none 0 0, .string ⟨#[]⟩, .slice none 0 0, .slice none 0 0, .slice none 0 0, .slice none 0 0, .slice none 0 0] [(0, 1), (1, 1), (2, 1), (3, 1), (4, 1), (5, 1), (6, 1), (7, 1)] := ⟨zr54, ⟨_, Tryz.underlying54, rfl⟩⟩
end Go.Proofs.YtgcmhhcopeiomaaGreatDoor.Ab
