/- Facts on the types of this program. Conditions: none. -/
import Derived.Test.YtagdgndoabomiaaDoorAb29
import Derived.Test.YtagdgndoabomiaaDoorProg
set_option maxRecDepth 100000
namespace Go.Proofs.YtagdgndoabomiaaDoor.Ab
open Go
theorem mo : Tryd.prog.follows .mixedOrders = true := rfl
theorem sc3 : Sc Tryd.prog 3 := ⟨⟨_, Tryd.underlying3, rfl⟩, ⟨_, rfl, rfl⟩⟩
theorem sl22 : SlT Tryd.prog 22 3 1 8 := ⟨Tryd.underlying22, ⟨_, _, rfl, rfl, rfl, rfl, rfl⟩⟩
theorem sl29 : SlT Tryd.prog 29 3 1 8 := ⟨Tryd.underlying29, ⟨_, _, rfl, rfl, rfl, rfl, rfl⟩⟩
theorem zr3 : Zr Tryd.prog 3 [.int .i64 0] := ⟨⟨_, _, rfl, rfl, rfl, rfl⟩⟩
end Go.Proofs.YtagdgndoabomiaaDoor.Ab
