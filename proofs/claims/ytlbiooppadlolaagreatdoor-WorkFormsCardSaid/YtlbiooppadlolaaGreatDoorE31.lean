/- What awake() comes to, read. Conditions: none. -/
import Derived.Test.YtlbiooppadlolaaGreatDoorE27
namespace Go.Proofs.YtlbiooppadlolaaGreatDoor.Ev
open Go
set_option maxRecDepth 1000000
theorem awake_read : (match call C1 60 4 [] noHp with | some (.b true, _) => true | _ => false) = true := by decide +kernel
end Go.Proofs.YtlbiooppadlolaaGreatDoor.Ev
