/- Known calls. Conditions: none. -/
import Derived.Test.YtjdnbobilgamdaaGreatDoorE27
namespace Go.Proofs.YtjdnbobilgamdaaGreatDoor.Ev
open Go
set_option maxRecDepth 1000000
theorem WA:(OY.take 3).all mm=true:=by decide+kernel
end Go.Proofs.YtjdnbobilgamdaaGreatDoor.Ev
