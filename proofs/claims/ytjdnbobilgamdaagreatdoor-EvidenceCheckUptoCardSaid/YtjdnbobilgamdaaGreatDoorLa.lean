/- What the row says of the package's variables. Conditions: none. -/
import Derived.Test.YtjdnbobilgamdaaGreatDoorKa
import Derived.Test.YtjdnbobilgamdaaGreatDoorAb11
import Derived.LaidMore
import Derived.OpenShut
import Derived.Stop.Joined
set_option maxRecDepth 100000
namespace Go.Proofs.YtjdnbobilgamdaaGreatDoor.Ab
open Go Go.ChangeShapes Go.WideShapes Go.ChangeAt Go.RowKit
abbrev JK:List (String×DataW Unit):=[("math/bits.deBruijn32tab",Rows.laid_math_bits_deBruijn32tab),("math/bits.deBruijn64tab",Rows.laid_math_bits_deBruijn64tab),("internal/strconv.uint64pow10",Rows.laid_internal_strconv_uint64pow10)]
theorem Mz(os:Os)(args:Array Value):laidMetH Tryz.prog JK ((World.doorLaid Tryz.prog 400 os).forCall (fun _ _=>0) ⟨#[],args,[]⟩).memory:=
 laidMetH_of_parts3 (fuel:=8) (laidMet_of_run' 8 (by kernel_rfl) (by kernel_rfl)) (by kernel_rfl) (by kernel_rfl)
theorem PO{W:World}(_:laidMetH Tryz.prog JK W):∀ x∈KC,∃ et fr,W.heap[x.1]?=some (.cells x.2 et fr):=fun x hx=>by cases hx
end Go.Proofs.YtjdnbobilgamdaaGreatDoor.Ab
