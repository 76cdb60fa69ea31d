/- Known calls. Conditions: none. -/
import Derived.Test.YtindppnanjcoaaaGreatDoorE27
namespace Go.Proofs.YtindppnanjcoaaaGreatDoor.Ev
open Go
set_option maxRecDepth 1000000
theorem ent_0 : (tab.take 3).all ent = true := by decide +kernel
end Go.Proofs.YtindppnanjcoaaaGreatDoor.Ev
