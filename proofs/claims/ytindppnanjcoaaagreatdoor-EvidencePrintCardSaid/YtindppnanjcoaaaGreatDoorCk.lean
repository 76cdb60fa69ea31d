/- The world that the row asks for. Conditions: none. -/
import Derived.Test.YtindppnanjcoaaaGreatDoorKa
import Derived.Test.YtindppnanjcoaaaGreatDoorLa
import Derived.Test.YtindppnanjcoaaaGreatDoorOk
set_option maxRecDepth 100000
namespace Go.Proofs.YtindppnanjcoaaaGreatDoor.Ab
open Go Go.ChangeShapes Go.WideShapes Go.ChangeAt Go.RowKit
theorem row_shaped (os : Os) : ((World.doorLaid Tryz.prog 400 os).forCall (fun _ _ => 0) ⟨#[], #[.slice none 0 0], []⟩).Shaped Tryz.prog := World.shaped_of_RefB (by kernel_rfl) (by kernel_rfl)
theorem row_wide (os : Os) : Input.okWideB Tryz.prog ((World.doorLaid Tryz.prog 400 os).forCall (fun _ _ => 0) ⟨#[], #[.slice none 0 0], []⟩) 3 ⟨#[], #[.slice none 0 0], []⟩ = true := by kernel_rfl
end Go.Proofs.YtindppnanjcoaaaGreatDoor.Ab
