/- What awake() comes to, read. Conditions: none. -/
import Derived.Test.YtindppnanjcoaaaGreatDoorE27
namespace Go.Proofs.YtindppnanjcoaaaGreatDoor.Ev
open Go
set_option maxRecDepth 1000000
theorem awake_read : (match call C1 60 4 [] noHp with | some (.b true, _) => true | _ => false) = true := by decide +kernel
end Go.Proofs.YtindppnanjcoaaaGreatDoor.Ev
