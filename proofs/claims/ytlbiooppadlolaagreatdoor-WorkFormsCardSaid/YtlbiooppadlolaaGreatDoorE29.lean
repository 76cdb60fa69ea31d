/- Known calls. Conditions: none. -/
import Derived.Test.YtlbiooppadlolaaGreatDoorE27
namespace Go.Proofs.YtlbiooppadlolaaGreatDoor.Ev
open Go
set_option maxRecDepth 1000000
theorem ent_1 : ((tab.drop 6).take 2).all ent = true := by decide +kernel
end Go.Proofs.YtlbiooppadlolaaGreatDoor.Ev
