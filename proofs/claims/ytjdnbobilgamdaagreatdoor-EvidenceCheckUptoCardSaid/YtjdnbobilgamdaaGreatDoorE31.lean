/- What awake() comes to, read. Conditions: none. -/
import Derived.Test.YtjdnbobilgamdaaGreatDoorE27
namespace Go.Proofs.YtjdnbobilgamdaaGreatDoor.Ev
open Go
set_option maxRecDepth 1000000
theorem Ig:(match call C1 60 4 [] pQ with|some (.b true,_)=>true|_=>false)=true:=by decide+kernel
end Go.Proofs.YtjdnbobilgamdaaGreatDoor.Ev
