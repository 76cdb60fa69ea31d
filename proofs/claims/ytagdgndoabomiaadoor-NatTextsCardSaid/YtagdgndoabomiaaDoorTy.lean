/- Facts on the types of this program. Conditions: none. -/
import Derived.Test.YtagdgndoabomiaaDoorAb26
import Derived.Test.YtagdgndoabomiaaDoorProg
set_option maxRecDepth 100000
namespace Go.Proofs.YtagdgndoabomiaaDoor.Ab
open Go
theorem mo : Tryd.prog.follows .mixedOrders = true := rfl
theorem al {p b : Bool} (h : (p && b) = true) : p = true := by simp at h; exact h.1
theorem sc22 : Sc Tryd.prog 22 := ⟨⟨_, Tryd.underlying22, rfl⟩, ⟨_, rfl, rfl⟩⟩
theorem sc3 : Sc Tryd.prog 3 := ⟨⟨_, Tryd.underlying3, rfl⟩, ⟨_, rfl, rfl⟩⟩
theorem sc5 : Sc Tryd.prog 5 := ⟨⟨_, Tryd.underlying5, rfl⟩, ⟨_, rfl, rfl⟩⟩
theorem sl22 : SlT Tryd.prog 22 3 1 8 := ⟨Tryd.underlying22, ⟨_, _, rfl, rfl, rfl, rfl, rfl⟩⟩
theorem sl29 : SlT Tryd.prog 29 3 1 8 := ⟨Tryd.underlying29, ⟨_, _, rfl, rfl, rfl, rfl, rfl⟩⟩
theorem sl65 : SlT Tryd.prog 65 5 1 1 := ⟨Tryd.underlying65, ⟨_, _, rfl, rfl, rfl, rfl, rfl⟩⟩
theorem sl74 : SlT Tryd.prog 74 22 1 24 := ⟨Tryd.underlying74, ⟨_, _, rfl, rfl, rfl, rfl, rfl⟩⟩
theorem zr3 : Zr Tryd.prog 3 [.int .i64 0] := ⟨⟨_, _, rfl, rfl, rfl, rfl⟩⟩
end Go.Proofs.YtagdgndoabomiaaDoor.Ab
